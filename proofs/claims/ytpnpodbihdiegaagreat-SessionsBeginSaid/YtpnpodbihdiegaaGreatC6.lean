/- Parts of the proof, laid together. No condition. -/
import Derived.Test.YtpnpodbihdiegaaGreatC5
import Derived.Laws.Bits64
set_option linter.unusedVariables false
set_option linter.unusedSimpArgs false
namespace Go.Proofs.YtpnpodbihdiegaaGreat
open Go.RowKit
set_option maxRecDepth 100000
set_option maxHeartbeats 4000000
def Vo (a0 : (List ByteArray)) (Q : ((List ByteArray)) → Prop) : Prop :=
 ((a0 = [] → Q (([] : (List ByteArray)))) ∧ (((([] : List ByteArray)).length + a0.length) * 16 ≤ 140737488355328) ∧ Q (((([] : List ByteArray)) ++ a0)))
def Zj (a0 : (List ByteArray)) (r : (List ByteArray)) : Prop := Vo a0 fun x => r = x
theorem KW {a0 : (List ByteArray)} {r : (List ByteArray)} (h : Zj a0 r) : Qq Tryz.prog 47 [.c (.l 1 (List.map eS a0))] [.c (.own 1 (List.map eS r))] [] := by
  refine Qn tb Tryz.func47 Z (by kernel_rfl) Z Z (Nat.le_of_ble_eq_true Z) Z ?_;intro E;unfold Zj Vo at h;refine Z3 (fun Q hQ => ?_);refine tD Z ?_;refine sk fun L1 hL1 => ?_;refine sk fun L hL => Wq Z Z Z Z Z (fun h0 => hL _ ?_) (hL _ ?_)
  · replace h := h.1 (by simpa using h0);refine Yr Z Z ?_;refine tD Z ?_;obtain rfl := h;exact Qf (hQ _ _ ⟨.inr Z, _, _, _, (.cons (.p Z) .nil), (.cons (.c (.nilo _ (Nat.le_of_ble_eq_true Z))) .nil), Z, Z⟩)
  · replace h := h.2;refine Ys Z Z ?_;refine Qi (hL1 _ ?_);refine tk fun L hL => ?_;refine ul (Wp (f := eS)) ?_;refine dN 1 Z ?_;obtain ⟨hm2, h⟩ := h;refine ul (QK (f := eS) (L := ([] : List ByteArray)) (L' := a0) hm2 Z Z Z Z Z Z Z Z Z Z Z (V5 QL Z Z Z Z Z)) ?_;refine dN 1 Z ?_;refine rt (hL _ ?_);obtain rfl := h;exact Qf (hQ _ _ (Ej Z Z Z Z))
def V3 (a0 : (List Qh)) (Q : ((List Qh)) → Prop) : Prop :=
 ((a0 = [] → Q (([] : (List Qh)))) ∧ (((([] : List Qh)).length + a0.length) * 24 ≤ 140737488355328) ∧ Q (((([] : List Qh)) ++ a0)))
def ZK (a0 : (List Qh)) (r : (List Qh)) : Prop := V3 a0 fun x => r = x
theorem YS {a0 : (List Qh)} {r : (List Qh)} (h : ZK a0 r) : Qq Tryz.prog 48 [.c (.l 2 (List.map QJ a0))] [.c (.own 2 (List.map QJ r))] [] := by
  refine Qn tb Tryz.func48 Z (by kernel_rfl) Z Z (Nat.le_of_ble_eq_true Z) Z ?_;intro E;unfold ZK V3 at h;refine Z3 (fun Q hQ => ?_);refine tD Z ?_;refine sk fun L1 hL1 => ?_;refine sk fun L hL => Wq Z Z Z Z Z (fun h0 => hL _ ?_) (hL _ ?_)
  · replace h := h.1 (by simpa using h0);refine Yr Z Z ?_;refine tD Z ?_;obtain rfl := h;exact Qf (hQ _ _ ⟨.inr Z, _, _, _, (.cons (.p Z) .nil), (.cons (.c (.nilo _ (Nat.le_of_ble_eq_true Z))) .nil), Z, Z⟩)
  · replace h := h.2;refine Ys Z Z ?_;refine Qi (hL1 _ ?_);refine tk fun L hL => ?_;refine ul (Wp (f := QJ)) ?_;refine dN 1 Z ?_;obtain ⟨hm2, h⟩ := h;refine ul (QK (f := QJ) (L := ([] : List Qh)) (L' := a0) hm2 Z Z Z Z Z Z Z Z Z Z Z (V5 QL Z Z Z Z Z)) ?_;refine dN 1 Z ?_;refine rt (hL _ ?_);obtain rfl := h;exact Qf (hQ _ _ (Ej Z Z Z Z))
def Ya (a0 : (List Int)) (Q : ((List Int)) → Prop) : Prop :=
 ((a0 = [] → Q (([] : (List Int)))) ∧ (((([] : List Int)).length + a0.length) * 1 ≤ 140737488355328) ∧ Q (((([] : List Int)) ++ a0)))
def ZF (a0 : (List Int)) (r : (List Int)) : Prop := Ya a0 fun x => r = x
theorem V8 {a0 : (List Int)} {r : (List Int)} (h : ZF a0 r) : Qq Tryz.prog 49 [.c (.l 1 (List.map (eI .u8) a0))] [.c (.own 1 (List.map (eI .u8) r))] [] := by
  refine Qn tb Tryz.func49 Z (by kernel_rfl) Z Z (Nat.le_of_ble_eq_true Z) Z ?_;intro E;unfold ZF Ya at h;refine Z3 (fun Q hQ => ?_);refine tD Z ?_;refine sk fun L1 hL1 => ?_;refine sk fun L hL => Wq Z Z Z Z Z (fun h0 => hL _ ?_) (hL _ ?_)
  · replace h := h.1 (by simpa using h0);refine Yr Z Z ?_;refine tD Z ?_;obtain rfl := h;exact Qf (hQ _ _ ⟨.inr Z, _, _, _, (.cons (.p Z) .nil), (.cons (.c (.nilo _ (Nat.le_of_ble_eq_true Z))) .nil), Z, Z⟩)
  · replace h := h.2;refine Ys Z Z ?_;refine Qi (hL1 _ ?_);refine tk fun L hL => ?_;refine ul (Wp (f := (eI .u8))) ?_;refine dN 1 Z ?_;obtain ⟨hm2, h⟩ := h;refine ul (QK (f := (eI .u8)) (L := ([] : List Int)) (L' := a0) hm2 Z Z Z Z Z Z Z Z Z Z Z (V5 QL Z Z Z Z Z)) ?_;refine dN 1 Z ?_;refine rt (hL _ ?_);obtain rfl := h;exact Qf (hQ _ _ (Ej Z Z Z Z))
def WJ (a0 : Qo) (Q : Qo → Prop) : Prop :=
 ∃ v1, Zj a0.fa0 v1 ∧ ∃ v2, ZK a0.f0 v2 ∧ ∃ v3, ZF a0.fb0 v3 ∧ ∃ v4, ZF a0.fb3 v4 ∧ Q ((Qo.mk a0.fk a0.fb4 a0.fi v1 a0.fa v2 v3 a0.f9 a0.fa6 a0.fa1 a0.fb1 a0.fa2 a0.fv a0.fo v4))
def Jn (a0 : Qo) (r : Qo) : Prop := WJ a0 fun x => r = x
theorem WK {a0 : Qo} {r : Qo} (h : Jn a0 r) : Qq Tryz.prog 33 [.agg (Zf a0)] [.agg [.p (.v (.int .i64 r.fk)), .p (.v (.string r.fb4)), .p (.v (.string r.fi)), .own 1 (List.map eS r.fa0), .p (.v (.int .i64 r.fa.fk)), .p (.v (.int .i64 r.fa.fg)), .p (.v (.int .i64 r.fa.fu)), .p (.v (.int .u64 r.fa.fw)), .own 2 (List.map QJ r.f0), .own 1 (List.map (eI .u8) r.fb0), .p (.v (.int .i64 r.f9)), .p (.v (.int .i64 r.fa6)), .p (.v (.int .i64 r.fa1)), .p (.v (.int .i64 r.fb1)), .p (.v (.int .i64 r.fa2)), .p (.v (.int .i64 r.fv)), .p (.v (.int .i64 r.fo.fk)), .p (.v (.string r.fo.fa4)), .p (.v (.int .i64 r.fo.fv)), .p (.v (.int .i64 r.fo.fb9)), .p (.v (.int .i64 r.fo.fb8)), .own 1 (List.map (eI .u8) r.fb3)]] [] := by
  refine Qn tb Tryz.func33 Z (by kernel_rfl) Z Z (Nat.le_of_ble_eq_true Z) Z ?_;intro E;unfold Jn WJ at h;refine Z3 (fun Q hQ => ?_);refine tD Z ?_;refine dk mixed (fun L hL => ?_);refine dN 2 Z ?_;obtain ⟨v1, hv1, h⟩ := h;refine ul (Zw (KW hv1)) ?_;refine dN 2 Z ?_;obtain ⟨v2, hv2, h⟩ := h;refine ul (Zw (YS hv2)) ?_;refine dN 4 Z ?_;refine rd (hL _ ?_);refine dk mixed (fun L hL => ?_);refine dN 2 Z ?_;obtain ⟨v3, hv3, h⟩ := h;refine ul (Zw (V8 hv3)) ?_;refine dN 2 Z ?_;obtain ⟨v4, hv4, h⟩ := h;refine ul (Zw (V8 hv4)) ?_;refine dN 4 Z ?_;refine rd (hL _ ?_);refine tD Z ?_;obtain rfl := h;exact Qf (hQ _ _ ⟨.inr Z, _, _, _, (.cons (.cella Z Z Z Z Z) .nil), (.cons (.agg (Qr (Qr (Qr (.cons (.own Z Z) (Qr (Qr (Qr (Qr (.cons (.own Z Z) (.cons (.own Z Z) (Qr (Qr (Qr (Qr (Qr (Qr (Qr (Qr (Qr (Qr (Qr (.cons (.own Z Z) .nil))))))))))))))))))))))) .nil), Z, Z⟩)
def YT (a0 : (List Int)) (Q : ((List Int)) → Prop) : Prop :=
 ((a0 = [] → Q (([] : (List Int)))) ∧ (((([] : List Int)).length + a0.length) * 8 ≤ 140737488355328) ∧ Q (((([] : List Int)) ++ a0)))
def ZX (a0 : (List Int)) (r : (List Int)) : Prop := YT a0 fun x => r = x
theorem VJ {a0 : (List Int)} {r : (List Int)} (h : ZX a0 r) : Qq Tryz.prog 75 [.c (.l 1 (List.map (eI .i64) a0))] [.c (.own 1 (List.map (eI .i64) r))] [] := by
  refine Qn tb Tryz.func75 Z (by kernel_rfl) Z Z (Nat.le_of_ble_eq_true Z) Z ?_;intro E;unfold ZX YT at h;refine Z3 (fun Q hQ => ?_);refine tD Z ?_;refine sk fun L1 hL1 => ?_;refine sk fun L hL => Wq Z Z Z Z Z (fun h0 => hL _ ?_) (hL _ ?_)
  · replace h := h.1 (by simpa using h0);refine Yr Z Z ?_;refine tD Z ?_;obtain rfl := h;exact Qf (hQ _ _ ⟨.inr Z, _, _, _, (.cons (.p Z) .nil), (.cons (.c (.nilo _ (Nat.le_of_ble_eq_true Z))) .nil), Z, Z⟩)
  · replace h := h.2;refine Ys Z Z ?_;refine Qi (hL1 _ ?_);refine tk fun L hL => ?_;refine ul (Wp (f := (eI .i64))) ?_;refine dN 1 Z ?_;obtain ⟨hm2, h⟩ := h;refine ul (QK (f := (eI .i64)) (L := ([] : List Int)) (L' := a0) hm2 Z Z Z Z Z Z Z Z Z Z Z (V5 QL Z Z Z Z Z)) ?_;refine dN 1 Z ?_;refine rt (hL _ ?_);obtain rfl := h;exact Qf (hQ _ _ (Ej Z Z Z Z))
def JL (a0 : (List Q1)) (Q : ((List Q1)) → Prop) : Prop :=
 ((a0 = [] → Q (([] : (List Q1)))) ∧ (((([] : List Q1)).length + a0.length) * 32 ≤ 140737488355328) ∧ Q (((([] : List Q1)) ++ a0)))
def Zk (a0 : (List Q1)) (r : (List Q1)) : Prop := JL a0 fun x => r = x
theorem JM {a0 : (List Q1)} {r : (List Q1)} (h : Zk a0 r) : Qq Tryz.prog 114 [.c (.l 3 (List.map Q8 a0))] [.c (.own 3 (List.map Q8 r))] [] := by
  refine Qn tb Tryz.func114 Z (by kernel_rfl) Z Z (Nat.le_of_ble_eq_true Z) Z ?_;intro E;unfold Zk JL at h;refine Z3 (fun Q hQ => ?_);refine tD Z ?_;refine sk fun L1 hL1 => ?_;refine sk fun L hL => Wq Z Z Z Z Z (fun h0 => hL _ ?_) (hL _ ?_)
  · replace h := h.1 (by simpa using h0);refine Yr Z Z ?_;refine tD Z ?_;obtain rfl := h;exact Qf (hQ _ _ ⟨.inr Z, _, _, _, (.cons (.p Z) .nil), (.cons (.c (.nilo _ (Nat.le_of_ble_eq_true Z))) .nil), Z, Z⟩)
  · replace h := h.2;refine Ys Z Z ?_;refine Qi (hL1 _ ?_);refine tk fun L hL => ?_;refine ul (Wp (f := Q8)) ?_;refine dN 1 Z ?_;obtain ⟨hm2, h⟩ := h;refine ul (QK (f := Q8) (L := ([] : List Q1)) (L' := a0) hm2 Z Z Z Z Z Z Z Z Z Z Z (V5 QL Z Z Z Z Z)) ?_;refine dN 1 Z ?_;refine rt (hL _ ?_);obtain rfl := h;exact Qf (hQ _ _ (Ej Z Z Z Z))
def Vp (a0 : (List (List ByteArray))) (Q : ((List (List ByteArray))) → Prop) : Prop :=
 ((a0 = [] → Q (([] : (List (List ByteArray))))) ∧ (((([] : List (List ByteArray))).length + a0.length) * 24 ≤ 140737488355328) ∧ Q (((([] : List (List ByteArray))) ++ a0)))
def ZY (a0 : (List (List ByteArray))) (r : (List (List ByteArray))) : Prop := Vp a0 fun x => r = x
theorem We {a0 : (List (List ByteArray))} {r : (List (List ByteArray))} (h : ZY a0 r) : Qq Tryz.prog 115 [.c (.l 1 (List.map (eL 1 eS) a0))] [.c (.own 1 (List.map (eL 1 eS) r))] [] := by
  refine Qn tb Tryz.func115 Z (by kernel_rfl) Z Z (Nat.le_of_ble_eq_true Z) Z ?_;intro E;unfold ZY Vp at h;refine Z3 (fun Q hQ => ?_);refine tD Z ?_;refine sk fun L1 hL1 => ?_;refine sk fun L hL => Wq Z Z Z Z Z (fun h0 => hL _ ?_) (hL _ ?_)
  · replace h := h.1 (by simpa using h0);refine Yr Z Z ?_;refine tD Z ?_;obtain rfl := h;exact Qf (hQ _ _ ⟨.inr Z, _, _, _, (.cons (.p Z) .nil), (.cons (.c (.nilo _ (Nat.le_of_ble_eq_true Z))) .nil), Z, Z⟩)
  · replace h := h.2;refine Ys Z Z ?_;refine Qi (hL1 _ ?_);refine tk fun L hL => ?_;refine ul (Wp (f := (eL 1 eS))) ?_;refine dN 1 Z ?_;obtain ⟨hm2, h⟩ := h;refine ul (QK (f := (eL 1 eS)) (L := ([] : List (List ByteArray))) (L' := a0) hm2 Z Z Z Z Z Z Z Z Z Z Z (V5 QL Z Z Z Z Z)) ?_;refine dN 1 Z ?_;refine rt (hL _ ?_);obtain rfl := h;exact Qf (hQ _ _ (Ej Z Z Z Z))
def Vq (a0 : Qc) (Q : Qc → Prop) : Prop :=
 ∃ v1, ZX a0.fc.fa9 v1 ∧ ∃ v2, ZX a0.f4.f5 v2 ∧ ∃ v3, Zk a0.fa7.fh v3 ∧ ∃ v4, Zk a0.ff.fh v4 ∧ ∃ v5, ZY a0.fq.fx v5 ∧ jn (fun (p6 : (List Int) × (List Int) × (List Q1) × (List Q1) × (List (List ByteArray))) => Q ((Qc.mk a0.fa a0.fy (Qa.mk a0.fc.fu a0.fc.fg a0.fc.fw p6.1 a0.fc.fb) (Qj.mk a0.f4.f8 a0.f4.fw p6.2.1) (Qs.mk a0.fa7.fg a0.fa7.fp p6.2.2.1 a0.fa7.fb) (Qe.mk a0.ff.fg a0.ff.fp a0.ff.fb6 p6.2.2.2.1 a0.ff.fb) (Qk.mk a0.fq.fg a0.fq.fp a0.fq.fb2 p6.2.2.2.2 a0.fq.fb)))) (fun (J6 : (List Int) × (List Int) × (List Q1) × (List Q1) × (List (List ByteArray)) → Prop) => lp (fun (X7 : (List (List ByteArray)) × Int × (List Int) × (List Int) × (List Q1) × (List Q1) → Prop) (s7 : (List (List ByteArray)) × Int × (List Int) × (List Int) × (List Q1) × (List Q1)) => (((decide (s7.2.1 < ((v5.length : Int)))) = true → ∃ v10, ix s7.1 s7.2.1 v10 ∧ ∃ v11, Zj v10 v11 ∧ ∃ v12, ix s7.1 s7.2.1 v12 ∧ X7 ((List.set s7.1 (Int.toNat s7.2.1) v11), (IntKind.i64.wrap (s7.2.1 + 1)), s7.2.2.1, s7.2.2.2.1, s7.2.2.2.2.1, s7.2.2.2.2.2)) ∧ ((decide (s7.2.1 < ((v5.length : Int)))) = false → J6 (s7.2.2.1, s7.2.2.2.1, s7.2.2.2.2.1, s7.2.2.2.2.2, s7.1)))) (v5, 0, v1, v2, v3, v4))
def ZN (a0 : Qc) (r : Qc) : Prop := Vq a0 fun x => r = x
theorem YD {a0 : Qc} {r : Qc} (h : ZN a0 r) : Qq Tryz.prog 76 [.agg (KY a0)] [.agg [.p (.v (.int .i64 r.fa.fk)), .p (.v (.int .i64 r.fa.fg)), .p (.v (.int .i64 r.fa.fu)), .p (.v (.int .u64 r.fa.fw)), .p (.v (.int .i64 r.fy.fp)), .p (.v (.int .i64 r.fy.f0)), .p (.v (.bool r.fy.fb)), .p (.v (.int .i64 r.fc.fu)), .p (.v (.int .i64 r.fc.fg)), .p (.v (.int .u64 r.fc.fw)), .own 1 (List.map (eI .i64) r.fc.fa9), .p (.v (.bool r.fc.fb)), .p (.v (.int .i64 r.f4.f8)), .p (.v (.int .u64 r.f4.fw)), .own 1 (List.map (eI .i64) r.f4.f5), .p (.v (.int .i64 r.fa7.fg)), .p (.v (.int .i64 r.fa7.fp)), .own 3 (List.map Q8 r.fa7.fh), .p (.v (.bool r.fa7.fb)), .p (.v (.int .i64 r.ff.fg)), .p (.v (.int .i64 r.ff.fp)), .p (.v (.int .i64 r.ff.fb6)), .own 3 (List.map Q8 r.ff.fh), .p (.v (.bool r.ff.fb)), .p (.v (.int .i64 r.fq.fg)), .p (.v (.int .i64 r.fq.fp)), .p (.v (.int .i64 r.fq.fb2)), .own 1 (List.map (eL 1 eS) r.fq.fx), .p (.v (.bool r.fq.fb))]] [] := by
  refine Qn tb Tryz.func76 Z (by kernel_rfl) Z Z (Nat.le_of_ble_eq_true Z) Z ?_;intro E;unfold ZN Vq at h;refine Z3 (fun Q hQ => ?_);refine tD Z ?_;refine tk fun L hL => ?_;refine dN 3 Z ?_;obtain ⟨v1, hv1, h⟩ := h;refine ul (Zw (VJ hv1)) ?_;refine dN 3 Z ?_;refine rt (hL _ ?_);refine tk fun L hL => ?_;refine dN 3 Z ?_;obtain ⟨v2, hv2, h⟩ := h;refine ul (Zw (VJ hv2)) ?_;refine dN 3 Z ?_;refine rt (hL _ ?_);refine tk fun L hL => ?_;refine dN 3 Z ?_;obtain ⟨v3, hv3, h⟩ := h;refine ul (Zw (JM hv3)) ?_;refine dN 3 Z ?_;refine rt (hL _ ?_);refine tk fun L hL => ?_;refine dN 3 Z ?_;obtain ⟨v4, hv4, h⟩ := h;refine ul (Zw (JM hv4)) ?_;refine dN 3 Z ?_;refine rt (hL _ ?_);refine tk fun L hL => ?_;refine dN 3 Z ?_;obtain ⟨v5, hv5, h⟩ := h;refine ul (Zw (We hv5)) ?_;refine dN 3 Z ?_;refine rt (hL _ ?_);refine Z5 (fun (p6 : (List Int) × (List Int) × (List Q1) × (List Q1) × (List (List ByteArray))) => (⟨[(1, .c (.ptr (1, 0) 0 0)), (2, .c (.ptr (2, 0) 0 0))], [((1, 2010), some (.row 1 (List.map (eI .i64) p6.1) true)), ((1, 2014), some (.row 1 (List.map (eI .i64) p6.2.1) true)), ((1, 2017), some (.row 3 (List.map Q8 p6.2.2.1) true)), ((1, 2022), some (.row 3 (List.map Q8 p6.2.2.2.1) true)), ((1, 2027), some (.row 1 (List.map (eL 1 eS) p6.2.2.2.2) true)), ((1, 0), some (.box ([.p (.v (.int .i64 a0.fa.fk)), .p (.v (.int .i64 a0.fa.fg)), .p (.v (.int .i64 a0.fa.fu)), .p (.v (.int .u64 a0.fa.fw)), .p (.v (.int .i64 a0.fy.fp)), .p (.v (.int .i64 a0.fy.f0)), .p (.v (.bool a0.fy.fb)), .p (.v (.int .i64 a0.fc.fu)), .p (.v (.int .i64 a0.fc.fg)), .p (.v (.int .u64 a0.fc.fw)), .sl (1, 2010) 0 (List.map (eI .i64) p6.1).length, .p (.v (.bool a0.fc.fb)), .p (.v (.int .i64 a0.f4.f8)), .p (.v (.int .u64 a0.f4.fw)), .sl (1, 2014) 0 (List.map (eI .i64) p6.2.1).length, .p (.v (.int .i64 a0.fa7.fg)), .p (.v (.int .i64 a0.fa7.fp)), .sl (1, 2017) 0 (List.map Q8 p6.2.2.1).length, .p (.v (.bool a0.fa7.fb)), .p (.v (.int .i64 a0.ff.fg)), .p (.v (.int .i64 a0.ff.fp)), .p (.v (.int .i64 a0.ff.fb6)), .sl (1, 2022) 0 (List.map Q8 p6.2.2.2.1).length, .p (.v (.bool a0.ff.fb)), .p (.v (.int .i64 a0.fq.fg)), .p (.v (.int .i64 a0.fq.fp)), .p (.v (.int .i64 a0.fq.fb2)), .sl (1, 2027) 0 (List.map (eL 1 eS) p6.2.2.2.2).length, .p (.v (.bool a0.fq.fb))]))), ((2, 0), some (.box ([.p (.v (.int .i64 0)), .p (.v (.int .i64 0)), .p (.v (.int .i64 0)), .p (.v (.int .u64 0)), .p (.v (.int .i64 0)), .p (.v (.int .i64 0)), .p (.v (.bool false)), .p (.v (.int .i64 0)), .p (.v (.int .i64 0)), .p (.v (.int .u64 0)), .p (.v (.slice none 0 0)), .p (.v (.bool false)), .p (.v (.int .i64 0)), .p (.v (.int .u64 0)), .p (.v (.slice none 0 0)), .p (.v (.int .i64 0)), .p (.v (.int .i64 0)), .p (.v (.slice none 0 0)), .p (.v (.bool false)), .p (.v (.int .i64 0)), .p (.v (.int .i64 0)), .p (.v (.int .i64 0)), .p (.v (.slice none 0 0)), .p (.v (.bool false)), .p (.v (.int .i64 0)), .p (.v (.int .i64 0)), .p (.v (.int .i64 0)), .p (.v (.slice none 0 0)), .p (.v (.bool false))])))]⟩ : St)) h (fun p6 h => ?_) (fun J6 L6 hL6 h => ?_)
  · refine tD Z ?_;obtain rfl := h;exact Qf (hQ _ _ ⟨.inr Z, _, _, _, (.cons (.cella Z Z Z Z Z) .nil), (.cons (.agg (Qr (Qr (Qr (Qr (Qr (Qr (Qr (Qr (Qr (Qr (.cons (.own Z Z) (Qr (Qr (Qr (.cons (.own Z Z) (Qr (Qr (.cons (.own Z Z) (Qr (Qr (Qr (Qr (.cons (.own Z Z) (Qr (Qr (Qr (Qr (.cons (.own Z Z) (Qr .nil)))))))))))))))))))))))))))))) .nil), Z, Z⟩)
  · refine tk fun L hL => ?_;refine dN 3 Z ?_;refine u0 Ki ?_;refine dN 1 Z ?_;refine rt (hL _ ?_);refine Qt ?_;refine Zs (fun (s7 : (List (List ByteArray)) × Int × (List Int) × (List Int) × (List Q1) × (List Q1)) => (⟨[(1, .c (.ptr (1, 0) 0 0)), (2, .c (.ptr (2, 0) 0 0)), (37, .c (.sl (37, 1000) 0 (List.map (eL 1 eS) s7.1).length)), (38, .c (.p (.v (.int .i64 ((v5.length : Int)))))), (39, .c (.p (.v (.int .i64 s7.2.1))))], [((37, 1000), some (.row 1 (List.map (eL 1 eS) s7.1) true)), ((1, 2010), some (.row 1 (List.map (eI .i64) s7.2.2.1) true)), ((1, 2014), some (.row 1 (List.map (eI .i64) s7.2.2.2.1) true)), ((1, 2017), some (.row 3 (List.map Q8 s7.2.2.2.2.1) true)), ((1, 2022), some (.row 3 (List.map Q8 s7.2.2.2.2.2) true)), ((1, 0), some (.box ([.p (.v (.int .i64 a0.fa.fk)), .p (.v (.int .i64 a0.fa.fg)), .p (.v (.int .i64 a0.fa.fu)), .p (.v (.int .u64 a0.fa.fw)), .p (.v (.int .i64 a0.fy.fp)), .p (.v (.int .i64 a0.fy.f0)), .p (.v (.bool a0.fy.fb)), .p (.v (.int .i64 a0.fc.fu)), .p (.v (.int .i64 a0.fc.fg)), .p (.v (.int .u64 a0.fc.fw)), .sl (1, 2010) 0 (List.map (eI .i64) s7.2.2.1).length, .p (.v (.bool a0.fc.fb)), .p (.v (.int .i64 a0.f4.f8)), .p (.v (.int .u64 a0.f4.fw)), .sl (1, 2014) 0 (List.map (eI .i64) s7.2.2.2.1).length, .p (.v (.int .i64 a0.fa7.fg)), .p (.v (.int .i64 a0.fa7.fp)), .sl (1, 2017) 0 (List.map Q8 s7.2.2.2.2.1).length, .p (.v (.bool a0.fa7.fb)), .p (.v (.int .i64 a0.ff.fg)), .p (.v (.int .i64 a0.ff.fp)), .p (.v (.int .i64 a0.ff.fb6)), .sl (1, 2022) 0 (List.map Q8 s7.2.2.2.2.2).length, .p (.v (.bool a0.ff.fb)), .p (.v (.int .i64 a0.fq.fg)), .p (.v (.int .i64 a0.fq.fp)), .p (.v (.int .i64 a0.fq.fb2)), .sl (37, 1000) 0 (List.map (eL 1 eS) s7.1).length, .p (.v (.bool a0.fq.fb))]))), ((2, 0), some (.box ([.p (.v (.int .i64 0)), .p (.v (.int .i64 0)), .p (.v (.int .i64 0)), .p (.v (.int .u64 0)), .p (.v (.int .i64 0)), .p (.v (.int .i64 0)), .p (.v (.bool false)), .p (.v (.int .i64 0)), .p (.v (.int .i64 0)), .p (.v (.int .u64 0)), .p (.v (.slice none 0 0)), .p (.v (.bool false)), .p (.v (.int .i64 0)), .p (.v (.int .u64 0)), .p (.v (.slice none 0 0)), .p (.v (.int .i64 0)), .p (.v (.int .i64 0)), .p (.v (.slice none 0 0)), .p (.v (.bool false)), .p (.v (.int .i64 0)), .p (.v (.int .i64 0)), .p (.v (.int .i64 0)), .p (.v (.slice none 0 0)), .p (.v (.bool false)), .p (.v (.int .i64 0)), .p (.v (.int .i64 0)), .p (.v (.int .i64 0)), .p (.v (.slice none 0 0)), .p (.v (.bool false))])))]⟩ : St)) h (QB.nm [1, 2, 37, 38, 39] [((32, 0), (37, 1000)), ((8, 0), (1, 2010)), ((14, 0), (1, 2014)), ((20, 0), (1, 2017)), ((26, 0), (1, 2022)), ((1, 0), (1, 0)), ((2, 0), (2, 0))] Z (by kernel_rfl)) (fun X7 L7 hL7 s7 h => ?_)
    refine tD Z ?_;refine sk fun L8 hL8 => ?_;refine cn h (fun h => ?_) fun h => ?_
    · refine Qi (hL8 _ ?_);refine sk fun L9 hL9 => ?_;refine Qt ?_;refine tk fun L hL => ?_;refine dN 1 Z ?_;obtain ⟨v10, hv10, h⟩ := h;refine u0 (QU hv10) ?_;refine u0 (QW Z Z (gm hv10.2)) ?_;refine dN 2 Z ?_;refine rt (hL _ ?_);refine dl mixed (fun L hL => ?_);refine dN 5 Z ?_;obtain ⟨v11, hv11, h⟩ := h;refine ul (Zw (KW hv11)) ?_;obtain ⟨v12, hv12, h⟩ := h;refine u0 (QU hv12) ?_;refine AP Z (ZD (b := (49, 0)) Z Z (Kc (x1 := v11) hv12.2 Z Z Z Z (.cons (.fr Z (QG Z)) .nil))) ?_;refine rd (hL _ (hL9 _ ?_));refine tE Z (hL7 _ _ h ((QB.slot 37 Z (.n (n' := (List.map (eL 1 eS) (List.set s7.1 (Int.toNat s7.2.1) v11)).length) (by simp))).trans ((QB.cells (1, 0) Z (.c (.c (.c (.c (.c (.c (.c (.c (.c (.c (.c (.c (.c (.c (.c (.c (.c (.c (.c (.c (.c (.c (.c (.c (.c (.c (.c (.cons (.n (n' := (List.map (eL 1 eS) (List.set s7.1 (Int.toNat s7.2.1) v11)).length) (by simp)) (.c .nil)))))))))))))))))))))))))))))).trans QB.fit)))
    · refine QT (hL6 _ _ h (QB.nm [1, 2] [((1, 2010), (1, 2010)), ((1, 2014), (1, 2014)), ((1, 2017), (1, 2017)), ((1, 2022), (1, 2022)), ((37, 1000), (1, 2027)), ((1, 0), (1, 0)), ((2, 0), (2, 0))] Z (by kernel_rfl)))
def Yb (a0 : Qy) (Q : Qy → Prop) : Prop :=
 ∃ v1, ZX a0.fc1 v1 ∧ ∃ v2, ZF a0.fb3 v2 ∧ ∃ v3, ZN a0.fj v3 ∧ ∃ v4, ZN a0.fi v4 ∧ Q ((Qy.mk a0.fc6 a0.fc8 a0.fc3 v1 a0.fb5 (Qc.mk v3.fa v3.fy (Qa.mk v3.fc.fu v3.fc.fg v3.fc.fw v3.fc.fa9 v3.fc.fb) (Qj.mk v3.f4.f8 v3.f4.fw v3.f4.f5) (Qs.mk v3.fa7.fg v3.fa7.fp v3.fa7.fh v3.fa7.fb) (Qe.mk v3.ff.fg v3.ff.fp v3.ff.fb6 v3.ff.fh v3.ff.fb) (Qk.mk v3.fq.fg v3.fq.fp v3.fq.fb2 v3.fq.fx v3.fq.fb)) (Qc.mk v4.fa v4.fy (Qa.mk v4.fc.fu v4.fc.fg v4.fc.fw v4.fc.fa9 v4.fc.fb) (Qj.mk v4.f4.f8 v4.f4.fw v4.f4.f5) (Qs.mk v4.fa7.fg v4.fa7.fp v4.fa7.fh v4.fa7.fb) (Qe.mk v4.ff.fg v4.ff.fp v4.ff.fb6 v4.ff.fh v4.ff.fb) (Qk.mk v4.fq.fg v4.fq.fp v4.fq.fb2 v4.fq.fx v4.fq.fb)) a0.fc7 a0.fd0 a0.fa1 a0.fa2 a0.fAt v2 a0.fc4))
def KZ (a0 : Qy) (r : Qy) : Prop := Yb a0 fun x => r = x
theorem Ux {a0 : Qy} {r : Qy} (h : KZ a0 r) : Qq Tryz.prog 44 [.agg (V6 a0)] [.agg [.p (.v (.int .i64 r.fc6)), .p (.v (.int .i64 r.fc8)), .p (.v (.bool r.fc3)), .own 1 (List.map (eI .i64) r.fc1), .p (.v (.int .i64 r.fb5)), .p (.v (.int .i64 r.fj.fa.fk)), .p (.v (.int .i64 r.fj.fa.fg)), .p (.v (.int .i64 r.fj.fa.fu)), .p (.v (.int .u64 r.fj.fa.fw)), .p (.v (.int .i64 r.fj.fy.fp)), .p (.v (.int .i64 r.fj.fy.f0)), .p (.v (.bool r.fj.fy.fb)), .p (.v (.int .i64 r.fj.fc.fu)), .p (.v (.int .i64 r.fj.fc.fg)), .p (.v (.int .u64 r.fj.fc.fw)), .own 1 (List.map (eI .i64) r.fj.fc.fa9), .p (.v (.bool r.fj.fc.fb)), .p (.v (.int .i64 r.fj.f4.f8)), .p (.v (.int .u64 r.fj.f4.fw)), .own 1 (List.map (eI .i64) r.fj.f4.f5), .p (.v (.int .i64 r.fj.fa7.fg)), .p (.v (.int .i64 r.fj.fa7.fp)), .own 3 (List.map Q8 r.fj.fa7.fh), .p (.v (.bool r.fj.fa7.fb)), .p (.v (.int .i64 r.fj.ff.fg)), .p (.v (.int .i64 r.fj.ff.fp)), .p (.v (.int .i64 r.fj.ff.fb6)), .own 3 (List.map Q8 r.fj.ff.fh), .p (.v (.bool r.fj.ff.fb)), .p (.v (.int .i64 r.fj.fq.fg)), .p (.v (.int .i64 r.fj.fq.fp)), .p (.v (.int .i64 r.fj.fq.fb2)), .own 1 (List.map (eL 1 eS) r.fj.fq.fx), .p (.v (.bool r.fj.fq.fb)), .p (.v (.int .i64 r.fi.fa.fk)), .p (.v (.int .i64 r.fi.fa.fg)), .p (.v (.int .i64 r.fi.fa.fu)), .p (.v (.int .u64 r.fi.fa.fw)), .p (.v (.int .i64 r.fi.fy.fp)), .p (.v (.int .i64 r.fi.fy.f0)), .p (.v (.bool r.fi.fy.fb)), .p (.v (.int .i64 r.fi.fc.fu)), .p (.v (.int .i64 r.fi.fc.fg)), .p (.v (.int .u64 r.fi.fc.fw)), .own 1 (List.map (eI .i64) r.fi.fc.fa9), .p (.v (.bool r.fi.fc.fb)), .p (.v (.int .i64 r.fi.f4.f8)), .p (.v (.int .u64 r.fi.f4.fw)), .own 1 (List.map (eI .i64) r.fi.f4.f5), .p (.v (.int .i64 r.fi.fa7.fg)), .p (.v (.int .i64 r.fi.fa7.fp)), .own 3 (List.map Q8 r.fi.fa7.fh), .p (.v (.bool r.fi.fa7.fb)), .p (.v (.int .i64 r.fi.ff.fg)), .p (.v (.int .i64 r.fi.ff.fp)), .p (.v (.int .i64 r.fi.ff.fb6)), .own 3 (List.map Q8 r.fi.ff.fh), .p (.v (.bool r.fi.ff.fb)), .p (.v (.int .i64 r.fi.fq.fg)), .p (.v (.int .i64 r.fi.fq.fp)), .p (.v (.int .i64 r.fi.fq.fb2)), .own 1 (List.map (eL 1 eS) r.fi.fq.fx), .p (.v (.bool r.fi.fq.fb)), .p (.v (.int .i64 r.fc7)), .p (.v (.int .i64 r.fd0)), .p (.v (.int .i64 r.fa1)), .p (.v (.int .i64 r.fa2)), .p (.v (.int .i64 r.fAt.fb5)), .p (.v (.int .i64 r.fAt.fd1)), .own 1 (List.map (eI .u8) r.fb3), .p (.v (.bool r.fc4))]] [] := by
  refine Qn tb Tryz.func44 Z (by kernel_rfl) Z Z (Nat.le_of_ble_eq_true Z) Z ?_;intro E;unfold KZ Yb at h;refine Z3 (fun Q hQ => ?_);refine tD Z ?_;refine dk mixed (fun L hL => ?_);refine dN 2 Z ?_;obtain ⟨v1, hv1, h⟩ := h;refine ul (Zw (VJ hv1)) ?_;refine dN 2 Z ?_;obtain ⟨v2, hv2, h⟩ := h;refine ul (Zw (V8 hv2)) ?_;refine dN 4 Z ?_;refine rd (hL _ ?_);refine dk mixed (fun L hL => ?_);refine dN 2 Z ?_;obtain ⟨v3, hv3, h⟩ := h;refine ul (Zw (YD hv3)) ?_;refine dN 2 Z ?_;obtain ⟨v4, hv4, h⟩ := h;refine ul (Zw (YD hv4)) ?_;refine dN 4 Z ?_;refine rd (hL _ ?_);refine tD Z ?_;obtain rfl := h;exact Qf (hQ _ _ ⟨.inr Z, _, _, _, (.cons (.cella Z Z Z Z Z) .nil), (.cons (.agg (Qr (Qr (Qr (.cons (.own Z Z) (Qr (Qr (Qr (Qr (Qr (Qr (Qr (Qr (Qr (Qr (Qr (.cons (.own Z Z) (Qr (Qr (Qr (.cons (.own Z Z) (Qr (Qr (.cons (.own Z Z) (Qr (Qr (Qr (Qr (.cons (.own Z Z) (Qr (Qr (Qr (Qr (.cons (.own Z Z) (Qr (Qr (Qr (Qr (Qr (Qr (Qr (Qr (Qr (Qr (Qr (.cons (.own Z Z) (Qr (Qr (Qr (.cons (.own Z Z) (Qr (Qr (.cons (.own Z Z) (Qr (Qr (Qr (Qr (.cons (.own Z Z) (Qr (Qr (Qr (Qr (.cons (.own Z Z) (Qr (Qr (Qr (Qr (Qr (Qr (Qr (.cons (.own Z Z) (Qr .nil)))))))))))))))))))))))))))))))))))))))))))))))))))))))))))))))))))))))) .nil), Z, Z⟩)
def KI (a0 : (List Qx)) (Q : ((List Qx)) → Prop) : Prop :=
 ((a0 = [] → Q (([] : (List Qx)))) ∧ (((([] : List Qx)).length + a0.length) * 40 ≤ 140737488355328) ∧ Q (((([] : List Qx)) ++ a0)))
def Zl (a0 : (List Qx)) (r : (List Qx)) : Prop := KI a0 fun x => r = x
theorem Xf {a0 : (List Qx)} {r : (List Qx)} (h : Zl a0 r) : Qq Tryz.prog 45 [.c (.l 3 (List.map QF a0))] [.c (.own 3 (List.map QF r))] [] := by
  refine Qn tb Tryz.func45 Z (by kernel_rfl) Z Z (Nat.le_of_ble_eq_true Z) Z ?_;intro E;unfold Zl KI at h;refine Z3 (fun Q hQ => ?_);refine tD Z ?_;refine sk fun L1 hL1 => ?_;refine sk fun L hL => Wq Z Z Z Z Z (fun h0 => hL _ ?_) (hL _ ?_)
  · replace h := h.1 (by simpa using h0);refine Yr Z Z ?_;refine tD Z ?_;obtain rfl := h;exact Qf (hQ _ _ ⟨.inr Z, _, _, _, (.cons (.p Z) .nil), (.cons (.c (.nilo _ (Nat.le_of_ble_eq_true Z))) .nil), Z, Z⟩)
  · replace h := h.2;refine Ys Z Z ?_;refine Qi (hL1 _ ?_);refine tk fun L hL => ?_;refine ul (Wp (f := QF)) ?_;refine dN 1 Z ?_;obtain ⟨hm2, h⟩ := h;refine ul (QK (f := QF) (L := ([] : List Qx)) (L' := a0) hm2 Z Z Z Z Z Z Z Z Z Z Z (V5 QL Z Z Z Z Z)) ?_;refine dN 1 Z ?_;refine rt (hL _ ?_);obtain rfl := h;exact Qf (hQ _ _ (Ej Z Z Z Z))
def Jo (a0 : (List QI)) (Q : ((List QI)) → Prop) : Prop :=
 ((a0 = [] → Q (([] : (List QI)))) ∧ (((([] : List QI)).length + a0.length) * 40 ≤ 140737488355328) ∧ Q (((([] : List QI)) ++ a0)))
def Zx (a0 : (List QI)) (r : (List QI)) : Prop := Jo a0 fun x => r = x
theorem XV {a0 : (List QI)} {r : (List QI)} (h : Zx a0 r) : Qq Tryz.prog 46 [.c (.l 4 (List.map QY a0))] [.c (.own 4 (List.map QY r))] [] := by
  refine Qn tb Tryz.func46 Z (by kernel_rfl) Z Z (Nat.le_of_ble_eq_true Z) Z ?_;intro E;unfold Zx Jo at h;refine Z3 (fun Q hQ => ?_);refine tD Z ?_;refine sk fun L1 hL1 => ?_;refine sk fun L hL => Wq Z Z Z Z Z (fun h0 => hL _ ?_) (hL _ ?_)
  · replace h := h.1 (by simpa using h0);refine Yr Z Z ?_;refine tD Z ?_;obtain rfl := h;exact Qf (hQ _ _ ⟨.inr Z, _, _, _, (.cons (.p Z) .nil), (.cons (.c (.nilo _ (Nat.le_of_ble_eq_true Z))) .nil), Z, Z⟩)
  · replace h := h.2;refine Ys Z Z ?_;refine Qi (hL1 _ ?_);refine tk fun L hL => ?_;refine ul (Wp (f := QY)) ?_;refine dN 1 Z ?_;obtain ⟨hm2, h⟩ := h;refine ul (QK (f := QY) (L := ([] : List QI)) (L' := a0) hm2 Z Z Z Z Z Z Z Z Z Z Z (V5 QL Z Z Z Z Z)) ?_;refine dN 1 Z ?_;refine rt (hL _ ?_);obtain rfl := h;exact Qf (hQ _ _ (Ej Z Z Z Z))
def YU (a0 : (List Q5)) (Q : ((List Q5)) → Prop) : Prop :=
 jn (fun (p1 : (List Q5)) => Q p1) (fun (J1 : (List Q5) → Prop) => lp (fun (X2 : (List Q5) × Int → Prop) (s2 : (List Q5) × Int) => (((decide (s2.2 < ((a0.length : Int)))) = true → jn (fun (p4 : (List Q5)) => X2 (p4, (IntKind.i64.wrap (s2.2 + 1)))) (fun (J4 : (List Q5) → Prop) => ∃ v5, ix a0 s2.2 v5 ∧ ∃ v6, Jn v5.fOp v6 ∧ ∃ v7, KZ v5.fm v7 ∧ ∃ v8, Zl v5.f7 v8 ∧ ∃ v9, Zx v5.fa5 v9 ∧ jn (fun (p10 : (List Q5) × (List ByteArray) × (List Qh) × (List Int) × (List Int) × (List Int) × (List Int) × (List Int) × (List Q1) × (List Q1) × (List (List ByteArray)) × (List Int) × (List Int) × (List Q1) × (List Q1) × (List (List ByteArray)) × (List Int) × (List Qx) × (List QI)) => ((p10.1.length + ([(Q5.mk v5.fb7 (Qo.mk v6.fk v6.fb4 v6.fi p10.2.1 v6.fa p10.2.2.1 p10.2.2.2.1 v6.f9 v6.fa6 v6.fa1 v6.fb1 v6.fa2 v6.fv v6.fo p10.2.2.2.2.1) (Qy.mk v7.fc6 v7.fc8 v7.fc3 p10.2.2.2.2.2.1 v7.fb5 (Qc.mk v7.fj.fa v7.fj.fy (Qa.mk v7.fj.fc.fu v7.fj.fc.fg v7.fj.fc.fw p10.2.2.2.2.2.2.1 v7.fj.fc.fb) (Qj.mk v7.fj.f4.f8 v7.fj.f4.fw p10.2.2.2.2.2.2.2.1) (Qs.mk v7.fj.fa7.fg v7.fj.fa7.fp p10.2.2.2.2.2.2.2.2.1 v7.fj.fa7.fb) (Qe.mk v7.fj.ff.fg v7.fj.ff.fp v7.fj.ff.fb6 p10.2.2.2.2.2.2.2.2.2.1 v7.fj.ff.fb) (Qk.mk v7.fj.fq.fg v7.fj.fq.fp v7.fj.fq.fb2 p10.2.2.2.2.2.2.2.2.2.2.1 v7.fj.fq.fb)) (Qc.mk v7.fi.fa v7.fi.fy (Qa.mk v7.fi.fc.fu v7.fi.fc.fg v7.fi.fc.fw p10.2.2.2.2.2.2.2.2.2.2.2.1 v7.fi.fc.fb) (Qj.mk v7.fi.f4.f8 v7.fi.f4.fw p10.2.2.2.2.2.2.2.2.2.2.2.2.1) (Qs.mk v7.fi.fa7.fg v7.fi.fa7.fp p10.2.2.2.2.2.2.2.2.2.2.2.2.2.1 v7.fi.fa7.fb) (Qe.mk v7.fi.ff.fg v7.fi.ff.fp v7.fi.ff.fb6 p10.2.2.2.2.2.2.2.2.2.2.2.2.2.2.1 v7.fi.ff.fb) (Qk.mk v7.fi.fq.fg v7.fi.fq.fp v7.fi.fq.fb2 p10.2.2.2.2.2.2.2.2.2.2.2.2.2.2.2.1 v7.fi.fq.fb)) v7.fc7 v7.fd0 v7.fa1 v7.fa2 v7.fAt p10.2.2.2.2.2.2.2.2.2.2.2.2.2.2.2.2.1 v7.fc4) v5.fa3 p10.2.2.2.2.2.2.2.2.2.2.2.2.2.2.2.2.2.1 p10.2.2.2.2.2.2.2.2.2.2.2.2.2.2.2.2.2.2)]).length) * 1088 ≤ 140737488355328) ∧ J4 ((p10.1 ++ ([(Q5.mk v5.fb7 (Qo.mk v6.fk v6.fb4 v6.fi p10.2.1 v6.fa p10.2.2.1 p10.2.2.2.1 v6.f9 v6.fa6 v6.fa1 v6.fb1 v6.fa2 v6.fv v6.fo p10.2.2.2.2.1) (Qy.mk v7.fc6 v7.fc8 v7.fc3 p10.2.2.2.2.2.1 v7.fb5 (Qc.mk v7.fj.fa v7.fj.fy (Qa.mk v7.fj.fc.fu v7.fj.fc.fg v7.fj.fc.fw p10.2.2.2.2.2.2.1 v7.fj.fc.fb) (Qj.mk v7.fj.f4.f8 v7.fj.f4.fw p10.2.2.2.2.2.2.2.1) (Qs.mk v7.fj.fa7.fg v7.fj.fa7.fp p10.2.2.2.2.2.2.2.2.1 v7.fj.fa7.fb) (Qe.mk v7.fj.ff.fg v7.fj.ff.fp v7.fj.ff.fb6 p10.2.2.2.2.2.2.2.2.2.1 v7.fj.ff.fb) (Qk.mk v7.fj.fq.fg v7.fj.fq.fp v7.fj.fq.fb2 p10.2.2.2.2.2.2.2.2.2.2.1 v7.fj.fq.fb)) (Qc.mk v7.fi.fa v7.fi.fy (Qa.mk v7.fi.fc.fu v7.fi.fc.fg v7.fi.fc.fw p10.2.2.2.2.2.2.2.2.2.2.2.1 v7.fi.fc.fb) (Qj.mk v7.fi.f4.f8 v7.fi.f4.fw p10.2.2.2.2.2.2.2.2.2.2.2.2.1) (Qs.mk v7.fi.fa7.fg v7.fi.fa7.fp p10.2.2.2.2.2.2.2.2.2.2.2.2.2.1 v7.fi.fa7.fb) (Qe.mk v7.fi.ff.fg v7.fi.ff.fp v7.fi.ff.fb6 p10.2.2.2.2.2.2.2.2.2.2.2.2.2.2.1 v7.fi.ff.fb) (Qk.mk v7.fi.fq.fg v7.fi.fq.fp v7.fi.fq.fb2 p10.2.2.2.2.2.2.2.2.2.2.2.2.2.2.2.1 v7.fi.fq.fb)) v7.fc7 v7.fd0 v7.fa1 v7.fa2 v7.fAt p10.2.2.2.2.2.2.2.2.2.2.2.2.2.2.2.2.1 v7.fc4) v5.fa3 p10.2.2.2.2.2.2.2.2.2.2.2.2.2.2.2.2.2.1 p10.2.2.2.2.2.2.2.2.2.2.2.2.2.2.2.2.2.2)])))) (fun (J10 : (List Q5) × (List ByteArray) × (List Qh) × (List Int) × (List Int) × (List Int) × (List Int) × (List Int) × (List Q1) × (List Q1) × (List (List ByteArray)) × (List Int) × (List Int) × (List Q1) × (List Q1) × (List (List ByteArray)) × (List Int) × (List Qx) × (List QI) → Prop) => lp (fun (X11 : (List Q5) × (List Qx) × Int × (List ByteArray) × (List Qh) × (List Int) × (List Int) × (List Int) × (List Int) × (List Int) × (List Q1) × (List Q1) × (List (List ByteArray)) × (List Int) × (List Int) × (List Q1) × (List Q1) × (List (List ByteArray)) × (List Int) × (List QI) → Prop) (s11 : (List Q5) × (List Qx) × Int × (List ByteArray) × (List Qh) × (List Int) × (List Int) × (List Int) × (List Int) × (List Int) × (List Q1) × (List Q1) × (List (List ByteArray)) × (List Int) × (List Int) × (List Q1) × (List Q1) × (List (List ByteArray)) × (List Int) × (List QI)) => (((decide (s11.2.2.1 < ((v8.length : Int)))) = true → ∃ v14, ix s11.2.1 s11.2.2.1 v14 ∧ ∃ v15, Zj v14.fa0 v15 ∧ ∃ v16, ix s11.2.1 s11.2.2.1 v16 ∧ X11 (s11.1, (List.set s11.2.1 (Int.toNat s11.2.2.1) ((Qx.mk v16.fc5 v16.fc0 v15))), (IntKind.i64.wrap (s11.2.2.1 + 1)), s11.2.2.2.1, s11.2.2.2.2.1, s11.2.2.2.2.2.1, s11.2.2.2.2.2.2.1, s11.2.2.2.2.2.2.2.1, s11.2.2.2.2.2.2.2.2.1, s11.2.2.2.2.2.2.2.2.2.1, s11.2.2.2.2.2.2.2.2.2.2.1, s11.2.2.2.2.2.2.2.2.2.2.2.1, s11.2.2.2.2.2.2.2.2.2.2.2.2.1, s11.2.2.2.2.2.2.2.2.2.2.2.2.2.1, s11.2.2.2.2.2.2.2.2.2.2.2.2.2.2.1, s11.2.2.2.2.2.2.2.2.2.2.2.2.2.2.2.1, s11.2.2.2.2.2.2.2.2.2.2.2.2.2.2.2.2.1, s11.2.2.2.2.2.2.2.2.2.2.2.2.2.2.2.2.2.1, s11.2.2.2.2.2.2.2.2.2.2.2.2.2.2.2.2.2.2.1, s11.2.2.2.2.2.2.2.2.2.2.2.2.2.2.2.2.2.2.2)) ∧ ((decide (s11.2.2.1 < ((v8.length : Int)))) = false → J10 (s11.1, s11.2.2.2.1, s11.2.2.2.2.1, s11.2.2.2.2.2.1, s11.2.2.2.2.2.2.1, s11.2.2.2.2.2.2.2.1, s11.2.2.2.2.2.2.2.2.1, s11.2.2.2.2.2.2.2.2.2.1, s11.2.2.2.2.2.2.2.2.2.2.1, s11.2.2.2.2.2.2.2.2.2.2.2.1, s11.2.2.2.2.2.2.2.2.2.2.2.2.1, s11.2.2.2.2.2.2.2.2.2.2.2.2.2.1, s11.2.2.2.2.2.2.2.2.2.2.2.2.2.2.1, s11.2.2.2.2.2.2.2.2.2.2.2.2.2.2.2.1, s11.2.2.2.2.2.2.2.2.2.2.2.2.2.2.2.2.1, s11.2.2.2.2.2.2.2.2.2.2.2.2.2.2.2.2.2.1, s11.2.2.2.2.2.2.2.2.2.2.2.2.2.2.2.2.2.2.1, s11.2.1, s11.2.2.2.2.2.2.2.2.2.2.2.2.2.2.2.2.2.2.2)))) (s2.1, v8, 0, v6.fa0, v6.f0, v6.fb0, v6.fb3, v7.fc1, v7.fj.fc.fa9, v7.fj.f4.f5, v7.fj.fa7.fh, v7.fj.ff.fh, v7.fj.fq.fx, v7.fi.fc.fa9, v7.fi.f4.f5, v7.fi.fa7.fh, v7.fi.ff.fh, v7.fi.fq.fx, v7.fb3, v9)))) ∧ ((decide (s2.2 < ((a0.length : Int)))) = false → J1 s2.1))) (([] : (List Q5)), 0))
def Jh (a0 : (List Q5)) (r : (List Q5)) : Prop := YU a0 fun x => r = x
theorem Uk {a0 : (List Q5)} {r : (List Q5)} (h : Jh a0 r) : Qq Tryz.prog 32 [.c (.l 97 (List.map Qv a0))] [.c (.own 97 (List.map Qv r))] [] := by
  refine Qn tb Tryz.func32 Z (by kernel_rfl) Z Z (Nat.le_of_ble_eq_true Z) Z ?_;intro E;unfold Jh YU at h;refine Z3 (fun Q hQ => ?_);refine tD Z ?_;refine tD Z ?_;refine Z5 (fun (p1 : (List Q5)) => (⟨[(3, .c (.sl (3, 1000) 0 (List.map Qv p1).length))], [((3, 1000), some (.row 97 (List.map Qv p1) true))]⟩ : St)) h (fun p1 h => ?_) (fun J1 L1 hL1 h => ?_)
  · refine tD Z ?_;obtain rfl := h;exact Qf (hQ _ _ (Ej Z Z Z Z))
  · refine tk fun L hL => ?_;refine dN 1 Z ?_;refine u0 QA ?_;refine dN 1 Z ?_;refine rt (hL _ ?_);refine Qt ?_;refine Zs (fun (s2 : (List Q5) × Int) => (⟨[(3, .c (.sl (3, 1000) 0 (List.map Qv s2.1).length)), (8, .c (.p (.l 97 (List.map Qv a0)))), (9, .c (.p (.v (.int .i64 ((a0.length : Int)))))), (10, .c (.p (.v (.int .i64 s2.2))))], [((3, 1000), some (.row 97 (List.map Qv s2.1) true))]⟩ : St)) h ((QB.blk (3, 1050) 97).trans ((QB.slot 3 Z (.nilo (b := (3, 1050)) Z)).trans (QB.nm [3, 8, 9, 10] [((3, 1050), (3, 1000))] Z (by kernel_rfl)))) (fun X2 L2 hL2 s2 h => ?_);refine tD Z ?_;refine sk fun L3 hL3 => ?_;refine cn h (fun h => ?_) fun h => ?_
    · refine Qi (hL3 _ ?_);refine Z5 (fun (p4 : (List Q5)) => (⟨[(3, .c (.sl (3, 1000) 0 (List.map Qv p4).length)), (8, .c (.p (.l 97 (List.map Qv a0)))), (9, .c (.p (.v (.int .i64 ((a0.length : Int)))))), (10, .c (.p (.v (.int .i64 s2.2))))], [((3, 1000), some (.row 97 (List.map Qv p4) true))]⟩ : St)) h (fun p4 h => ?_) (fun J4 L4 hL4 h => ?_)
      · refine tE Z (hL2 _ _ h QB.fit)
      · refine Qt ?_;refine tk fun L hL => ?_;obtain ⟨v5, hv5, h⟩ := h;refine u0 (QC hv5) ?_;refine dN 3 Z ?_;refine rt (hL _ ?_);refine dk mixed (fun L hL => ?_);refine dN 2 Z ?_;obtain ⟨v6, hv6, h⟩ := h;refine ul (Zw (WK hv6)) ?_;refine dN 2 Z ?_;obtain ⟨v7, hv7, h⟩ := h;refine ul (Zw (Ux hv7)) ?_;refine dN 4 Z ?_;refine rd (hL _ ?_);refine dk mixed (fun L hL => ?_);refine dN 2 Z ?_;obtain ⟨v8, hv8, h⟩ := h;refine ul (Zw (Xf hv8)) ?_;refine dN 2 Z ?_;obtain ⟨v9, hv9, h⟩ := h;refine ul (Zw (XV hv9)) ?_;refine dN 4 Z ?_;refine rd (hL _ ?_);refine Z5 (fun (p10 : (List Q5) × (List ByteArray) × (List Qh) × (List Int) × (List Int) × (List Int) × (List Int) × (List Int) × (List Q1) × (List Q1) × (List (List ByteArray)) × (List Int) × (List Int) × (List Q1) × (List Q1) × (List (List ByteArray)) × (List Int) × (List Qx) × (List QI)) => (⟨[(3, .c (.sl (3, 1000) 0 (List.map Qv p10.1).length)), (5, .c (.ptr (5, 0) 0 0)), (8, .c (.p (.l 97 (List.map Qv a0)))), (9, .c (.p (.v (.int .i64 ((a0.length : Int)))))), (10, .c (.p (.v (.int .i64 s2.2))))], [((3, 1000), some (.row 97 (List.map Qv p10.1) true)), ((5, 2004), some (.row 1 (List.map eS p10.2.1) true)), ((5, 2009), some (.row 2 (List.map QJ p10.2.2.1) true)), ((5, 2010), some (.row 1 (List.map (eI .u8) p10.2.2.2.1) true)), ((5, 2022), some (.row 1 (List.map (eI .u8) p10.2.2.2.2.1) true)), ((5, 2026), some (.row 1 (List.map (eI .i64) p10.2.2.2.2.2.1) true)), ((5, 2038), some (.row 1 (List.map (eI .i64) p10.2.2.2.2.2.2.1) true)), ((5, 2042), some (.row 1 (List.map (eI .i64) p10.2.2.2.2.2.2.2.1) true)), ((5, 2045), some (.row 3 (List.map Q8 p10.2.2.2.2.2.2.2.2.1) true)), ((5, 2050), some (.row 3 (List.map Q8 p10.2.2.2.2.2.2.2.2.2.1) true)), ((5, 2055), some (.row 1 (List.map (eL 1 eS) p10.2.2.2.2.2.2.2.2.2.2.1) true)), ((5, 2067), some (.row 1 (List.map (eI .i64) p10.2.2.2.2.2.2.2.2.2.2.2.1) true)), ((5, 2071), some (.row 1 (List.map (eI .i64) p10.2.2.2.2.2.2.2.2.2.2.2.2.1) true)), ((5, 2074), some (.row 3 (List.map Q8 p10.2.2.2.2.2.2.2.2.2.2.2.2.2.1) true)), ((5, 2079), some (.row 3 (List.map Q8 p10.2.2.2.2.2.2.2.2.2.2.2.2.2.2.1) true)), ((5, 2084), some (.row 1 (List.map (eL 1 eS) p10.2.2.2.2.2.2.2.2.2.2.2.2.2.2.2.1) true)), ((5, 2092), some (.row 1 (List.map (eI .u8) p10.2.2.2.2.2.2.2.2.2.2.2.2.2.2.2.2.1) true)), ((5, 2095), some (.row 3 (List.map QF p10.2.2.2.2.2.2.2.2.2.2.2.2.2.2.2.2.2.1) true)), ((5, 2096), some (.row 4 (List.map QY p10.2.2.2.2.2.2.2.2.2.2.2.2.2.2.2.2.2.2) true)), ((5, 0), some (.box ([.p (.v (.bool v5.fb7)), .p (.v (.int .i64 v6.fk)), .p (.v (.string v6.fb4)), .p (.v (.string v6.fi)), .sl (5, 2004) 0 (List.map eS p10.2.1).length, .p (.v (.int .i64 v6.fa.fk)), .p (.v (.int .i64 v6.fa.fg)), .p (.v (.int .i64 v6.fa.fu)), .p (.v (.int .u64 v6.fa.fw)), .sl (5, 2009) 0 (List.map QJ p10.2.2.1).length, .sl (5, 2010) 0 (List.map (eI .u8) p10.2.2.2.1).length, .p (.v (.int .i64 v6.f9)), .p (.v (.int .i64 v6.fa6)), .p (.v (.int .i64 v6.fa1)), .p (.v (.int .i64 v6.fb1)), .p (.v (.int .i64 v6.fa2)), .p (.v (.int .i64 v6.fv)), .p (.v (.int .i64 v6.fo.fk)), .p (.v (.string v6.fo.fa4)), .p (.v (.int .i64 v6.fo.fv)), .p (.v (.int .i64 v6.fo.fb9)), .p (.v (.int .i64 v6.fo.fb8)), .sl (5, 2022) 0 (List.map (eI .u8) p10.2.2.2.2.1).length, .p (.v (.int .i64 v7.fc6)), .p (.v (.int .i64 v7.fc8)), .p (.v (.bool v7.fc3)), .sl (5, 2026) 0 (List.map (eI .i64) p10.2.2.2.2.2.1).length, .p (.v (.int .i64 v7.fb5)), .p (.v (.int .i64 v7.fj.fa.fk)), .p (.v (.int .i64 v7.fj.fa.fg)), .p (.v (.int .i64 v7.fj.fa.fu)), .p (.v (.int .u64 v7.fj.fa.fw)), .p (.v (.int .i64 v7.fj.fy.fp)), .p (.v (.int .i64 v7.fj.fy.f0)), .p (.v (.bool v7.fj.fy.fb)), .p (.v (.int .i64 v7.fj.fc.fu)), .p (.v (.int .i64 v7.fj.fc.fg)), .p (.v (.int .u64 v7.fj.fc.fw)), .sl (5, 2038) 0 (List.map (eI .i64) p10.2.2.2.2.2.2.1).length, .p (.v (.bool v7.fj.fc.fb)), .p (.v (.int .i64 v7.fj.f4.f8)), .p (.v (.int .u64 v7.fj.f4.fw)), .sl (5, 2042) 0 (List.map (eI .i64) p10.2.2.2.2.2.2.2.1).length, .p (.v (.int .i64 v7.fj.fa7.fg)), .p (.v (.int .i64 v7.fj.fa7.fp)), .sl (5, 2045) 0 (List.map Q8 p10.2.2.2.2.2.2.2.2.1).length, .p (.v (.bool v7.fj.fa7.fb)), .p (.v (.int .i64 v7.fj.ff.fg)), .p (.v (.int .i64 v7.fj.ff.fp)), .p (.v (.int .i64 v7.fj.ff.fb6)), .sl (5, 2050) 0 (List.map Q8 p10.2.2.2.2.2.2.2.2.2.1).length, .p (.v (.bool v7.fj.ff.fb)), .p (.v (.int .i64 v7.fj.fq.fg)), .p (.v (.int .i64 v7.fj.fq.fp)), .p (.v (.int .i64 v7.fj.fq.fb2)), .sl (5, 2055) 0 (List.map (eL 1 eS) p10.2.2.2.2.2.2.2.2.2.2.1).length, .p (.v (.bool v7.fj.fq.fb)), .p (.v (.int .i64 v7.fi.fa.fk)), .p (.v (.int .i64 v7.fi.fa.fg)), .p (.v (.int .i64 v7.fi.fa.fu)), .p (.v (.int .u64 v7.fi.fa.fw)), .p (.v (.int .i64 v7.fi.fy.fp)), .p (.v (.int .i64 v7.fi.fy.f0)), .p (.v (.bool v7.fi.fy.fb)), .p (.v (.int .i64 v7.fi.fc.fu)), .p (.v (.int .i64 v7.fi.fc.fg)), .p (.v (.int .u64 v7.fi.fc.fw)), .sl (5, 2067) 0 (List.map (eI .i64) p10.2.2.2.2.2.2.2.2.2.2.2.1).length, .p (.v (.bool v7.fi.fc.fb)), .p (.v (.int .i64 v7.fi.f4.f8)), .p (.v (.int .u64 v7.fi.f4.fw)), .sl (5, 2071) 0 (List.map (eI .i64) p10.2.2.2.2.2.2.2.2.2.2.2.2.1).length, .p (.v (.int .i64 v7.fi.fa7.fg)), .p (.v (.int .i64 v7.fi.fa7.fp)), .sl (5, 2074) 0 (List.map Q8 p10.2.2.2.2.2.2.2.2.2.2.2.2.2.1).length, .p (.v (.bool v7.fi.fa7.fb)), .p (.v (.int .i64 v7.fi.ff.fg)), .p (.v (.int .i64 v7.fi.ff.fp)), .p (.v (.int .i64 v7.fi.ff.fb6)), .sl (5, 2079) 0 (List.map Q8 p10.2.2.2.2.2.2.2.2.2.2.2.2.2.2.1).length, .p (.v (.bool v7.fi.ff.fb)), .p (.v (.int .i64 v7.fi.fq.fg)), .p (.v (.int .i64 v7.fi.fq.fp)), .p (.v (.int .i64 v7.fi.fq.fb2)), .sl (5, 2084) 0 (List.map (eL 1 eS) p10.2.2.2.2.2.2.2.2.2.2.2.2.2.2.2.1).length, .p (.v (.bool v7.fi.fq.fb)), .p (.v (.int .i64 v7.fc7)), .p (.v (.int .i64 v7.fd0)), .p (.v (.int .i64 v7.fa1)), .p (.v (.int .i64 v7.fa2)), .p (.v (.int .i64 v7.fAt.fb5)), .p (.v (.int .i64 v7.fAt.fd1)), .sl (5, 2092) 0 (List.map (eI .u8) p10.2.2.2.2.2.2.2.2.2.2.2.2.2.2.2.2.1).length, .p (.v (.bool v7.fc4)), .p (.v (.int .i64 v5.fa3)), .sl (5, 2095) 0 (List.map QF p10.2.2.2.2.2.2.2.2.2.2.2.2.2.2.2.2.2.1).length, .sl (5, 2096) 0 (List.map QY p10.2.2.2.2.2.2.2.2.2.2.2.2.2.2.2.2.2.2).length])))]⟩ : St)) h (fun p10 h => ?_) (fun J10 L10 hL10 h => ?_)
        · refine tl fun L hL => ?_;refine dN 2 Z ?_;refine ul (ZD (b := (5, 2096)) Z Z (ZD (b := (5, 2095)) Z Z (ZD (b := (5, 2092)) Z Z (ZD (b := (5, 2084)) Z Z (ZD (b := (5, 2079)) Z Z (ZD (b := (5, 2074)) Z Z (ZD (b := (5, 2071)) Z Z (ZD (b := (5, 2067)) Z Z (ZD (b := (5, 2055)) Z Z (ZD (b := (5, 2050)) Z Z (ZD (b := (5, 2045)) Z Z (ZD (b := (5, 2042)) Z Z (ZD (b := (5, 2038)) Z Z (ZD (b := (5, 2026)) Z Z (ZD (b := (5, 2022)) Z Z (ZD (b := (5, 2010)) Z Z (ZD (b := (5, 2009)) Z Z (ZD (b := (5, 2004)) Z Z (Xn (rows := List.map Qv [(Q5.mk v5.fb7 (Qo.mk v6.fk v6.fb4 v6.fi p10.2.1 v6.fa p10.2.2.1 p10.2.2.2.1 v6.f9 v6.fa6 v6.fa1 v6.fb1 v6.fa2 v6.fv v6.fo p10.2.2.2.2.1) (Qy.mk v7.fc6 v7.fc8 v7.fc3 p10.2.2.2.2.2.1 v7.fb5 (Qc.mk v7.fj.fa v7.fj.fy (Qa.mk v7.fj.fc.fu v7.fj.fc.fg v7.fj.fc.fw p10.2.2.2.2.2.2.1 v7.fj.fc.fb) (Qj.mk v7.fj.f4.f8 v7.fj.f4.fw p10.2.2.2.2.2.2.2.1) (Qs.mk v7.fj.fa7.fg v7.fj.fa7.fp p10.2.2.2.2.2.2.2.2.1 v7.fj.fa7.fb) (Qe.mk v7.fj.ff.fg v7.fj.ff.fp v7.fj.ff.fb6 p10.2.2.2.2.2.2.2.2.2.1 v7.fj.ff.fb) (Qk.mk v7.fj.fq.fg v7.fj.fq.fp v7.fj.fq.fb2 p10.2.2.2.2.2.2.2.2.2.2.1 v7.fj.fq.fb)) (Qc.mk v7.fi.fa v7.fi.fy (Qa.mk v7.fi.fc.fu v7.fi.fc.fg v7.fi.fc.fw p10.2.2.2.2.2.2.2.2.2.2.2.1 v7.fi.fc.fb) (Qj.mk v7.fi.f4.f8 v7.fi.f4.fw p10.2.2.2.2.2.2.2.2.2.2.2.2.1) (Qs.mk v7.fi.fa7.fg v7.fi.fa7.fp p10.2.2.2.2.2.2.2.2.2.2.2.2.2.1 v7.fi.fa7.fb) (Qe.mk v7.fi.ff.fg v7.fi.ff.fp v7.fi.ff.fb6 p10.2.2.2.2.2.2.2.2.2.2.2.2.2.2.1 v7.fi.ff.fb) (Qk.mk v7.fi.fq.fg v7.fi.fq.fp v7.fi.fq.fb2 p10.2.2.2.2.2.2.2.2.2.2.2.2.2.2.2.1 v7.fi.fq.fb)) v7.fc7 v7.fd0 v7.fa1 v7.fa2 v7.fAt p10.2.2.2.2.2.2.2.2.2.2.2.2.2.2.2.2.1 v7.fc4) v5.fa3 p10.2.2.2.2.2.2.2.2.2.2.2.2.2.2.2.2.2.1 p10.2.2.2.2.2.2.2.2.2.2.2.2.2.2.2.2.2.2)]) Z Z Z Z Z Z Z Z Z (.c (.c (.c (.c (.cons (.fr Z (QG Z)) (.c (.c (.c (.c (.cons (.fr Z (QG Z)) (.cons (.fr Z (QG Z)) (.c (.c (.c (.c (.c (.c (.c (.c (.c (.c (.c (.cons (.fr Z (QG Z)) (.c (.c (.c (.cons (.fr Z (QG Z)) (.c (.c (.c (.c (.c (.c (.c (.c (.c (.c (.c (.cons (.fr Z (QG Z)) (.c (.c (.c (.cons (.fr Z (QG Z)) (.c (.c (.cons (.fr Z (QG Z)) (.c (.c (.c (.c (.cons (.fr Z (QG Z)) (.c (.c (.c (.c (.cons (.fr Z (QG Z)) (.c (.c (.c (.c (.c (.c (.c (.c (.c (.c (.c (.cons (.fr Z (QG Z)) (.c (.c (.c (.cons (.fr Z (QG Z)) (.c (.c (.cons (.fr Z (QG Z)) (.c (.c (.c (.c (.cons (.fr Z (QG Z)) (.c (.c (.c (.c (.cons (.fr Z (QG Z)) (.c (.c (.c (.c (.c (.c (.c (.cons (.fr Z (QG Z)) (.c (.c (.cons (.fr Z (QG Z)) (.cons (.fr Z (QG Z)) .nil)))))))))))))))))))))))))))))))))))))))))))))))))))))))))))))))))))))))))))))))))))))))))))))))))))))))))))))))))))) ?_
          obtain ⟨hm17, h⟩ := h;refine ul (QK (f := Qv) (L := p10.1) (L' := [(Q5.mk v5.fb7 (Qo.mk v6.fk v6.fb4 v6.fi p10.2.1 v6.fa p10.2.2.1 p10.2.2.2.1 v6.f9 v6.fa6 v6.fa1 v6.fb1 v6.fa2 v6.fv v6.fo p10.2.2.2.2.1) (Qy.mk v7.fc6 v7.fc8 v7.fc3 p10.2.2.2.2.2.1 v7.fb5 (Qc.mk v7.fj.fa v7.fj.fy (Qa.mk v7.fj.fc.fu v7.fj.fc.fg v7.fj.fc.fw p10.2.2.2.2.2.2.1 v7.fj.fc.fb) (Qj.mk v7.fj.f4.f8 v7.fj.f4.fw p10.2.2.2.2.2.2.2.1) (Qs.mk v7.fj.fa7.fg v7.fj.fa7.fp p10.2.2.2.2.2.2.2.2.1 v7.fj.fa7.fb) (Qe.mk v7.fj.ff.fg v7.fj.ff.fp v7.fj.ff.fb6 p10.2.2.2.2.2.2.2.2.2.1 v7.fj.ff.fb) (Qk.mk v7.fj.fq.fg v7.fj.fq.fp v7.fj.fq.fb2 p10.2.2.2.2.2.2.2.2.2.2.1 v7.fj.fq.fb)) (Qc.mk v7.fi.fa v7.fi.fy (Qa.mk v7.fi.fc.fu v7.fi.fc.fg v7.fi.fc.fw p10.2.2.2.2.2.2.2.2.2.2.2.1 v7.fi.fc.fb) (Qj.mk v7.fi.f4.f8 v7.fi.f4.fw p10.2.2.2.2.2.2.2.2.2.2.2.2.1) (Qs.mk v7.fi.fa7.fg v7.fi.fa7.fp p10.2.2.2.2.2.2.2.2.2.2.2.2.2.1 v7.fi.fa7.fb) (Qe.mk v7.fi.ff.fg v7.fi.ff.fp v7.fi.ff.fb6 p10.2.2.2.2.2.2.2.2.2.2.2.2.2.2.1 v7.fi.ff.fb) (Qk.mk v7.fi.fq.fg v7.fi.fq.fp v7.fi.fq.fb2 p10.2.2.2.2.2.2.2.2.2.2.2.2.2.2.2.1 v7.fi.fq.fb)) v7.fc7 v7.fd0 v7.fa1 v7.fa2 v7.fAt p10.2.2.2.2.2.2.2.2.2.2.2.2.2.2.2.2.1 v7.fc4) v5.fa3 p10.2.2.2.2.2.2.2.2.2.2.2.2.2.2.2.2.2.1 p10.2.2.2.2.2.2.2.2.2.2.2.2.2.2.2.2.2.2)]) hm17 Z Z Z Z Z Z Z Z Z Z Z (Z0 QL Z Z Z Z Z Z)) ?_
          refine dN 1 Z ?_;refine rt (hL _ (hL4 _ _ h (QB.nm [3, 8, 9, 10] [((50, 0), (3, 1000))] Z (by kernel_rfl))))
        · refine tk fun L hL => ?_;refine dN 2 Z ?_;refine u0 Ki ?_;refine dN 1 Z ?_;refine rt (hL _ ?_);refine Qt ?_;refine Zs (fun (s11 : (List Q5) × (List Qx) × Int × (List ByteArray) × (List Qh) × (List Int) × (List Int) × (List Int) × (List Int) × (List Int) × (List Q1) × (List Q1) × (List (List ByteArray)) × (List Int) × (List Int) × (List Q1) × (List Q1) × (List (List ByteArray)) × (List Int) × (List QI)) => (⟨[(3, .c (.sl (3, 1000) 0 (List.map Qv s11.1).length)), (5, .c (.ptr (5, 0) 0 0)), (8, .c (.p (.l 97 (List.map Qv a0)))), (9, .c (.p (.v (.int .i64 ((a0.length : Int)))))), (10, .c (.p (.v (.int .i64 s2.2)))), (31, .c (.sl (31, 1000) 0 (List.map QF s11.2.1).length)), (32, .c (.p (.v (.int .i64 ((v8.length : Int)))))), (33, .c (.p (.v (.int .i64 s11.2.2.1))))], [((3, 1000), some (.row 97 (List.map Qv s11.1) true)), ((31, 1000), some (.row 3 (List.map QF s11.2.1) true)), ((5, 2004), some (.row 1 (List.map eS s11.2.2.2.1) true)), ((5, 2009), some (.row 2 (List.map QJ s11.2.2.2.2.1) true)), ((5, 2010), some (.row 1 (List.map (eI .u8) s11.2.2.2.2.2.1) true)), ((5, 2022), some (.row 1 (List.map (eI .u8) s11.2.2.2.2.2.2.1) true)), ((5, 2026), some (.row 1 (List.map (eI .i64) s11.2.2.2.2.2.2.2.1) true)), ((5, 2038), some (.row 1 (List.map (eI .i64) s11.2.2.2.2.2.2.2.2.1) true)), ((5, 2042), some (.row 1 (List.map (eI .i64) s11.2.2.2.2.2.2.2.2.2.1) true)), ((5, 2045), some (.row 3 (List.map Q8 s11.2.2.2.2.2.2.2.2.2.2.1) true)), ((5, 2050), some (.row 3 (List.map Q8 s11.2.2.2.2.2.2.2.2.2.2.2.1) true)), ((5, 2055), some (.row 1 (List.map (eL 1 eS) s11.2.2.2.2.2.2.2.2.2.2.2.2.1) true)), ((5, 2067), some (.row 1 (List.map (eI .i64) s11.2.2.2.2.2.2.2.2.2.2.2.2.2.1) true)), ((5, 2071), some (.row 1 (List.map (eI .i64) s11.2.2.2.2.2.2.2.2.2.2.2.2.2.2.1) true)), ((5, 2074), some (.row 3 (List.map Q8 s11.2.2.2.2.2.2.2.2.2.2.2.2.2.2.2.1) true)), ((5, 2079), some (.row 3 (List.map Q8 s11.2.2.2.2.2.2.2.2.2.2.2.2.2.2.2.2.1) true)), ((5, 2084), some (.row 1 (List.map (eL 1 eS) s11.2.2.2.2.2.2.2.2.2.2.2.2.2.2.2.2.2.1) true)), ((5, 2092), some (.row 1 (List.map (eI .u8) s11.2.2.2.2.2.2.2.2.2.2.2.2.2.2.2.2.2.2.1) true)), ((5, 2096), some (.row 4 (List.map QY s11.2.2.2.2.2.2.2.2.2.2.2.2.2.2.2.2.2.2.2) true)), ((5, 0), some (.box ([.p (.v (.bool v5.fb7)), .p (.v (.int .i64 v6.fk)), .p (.v (.string v6.fb4)), .p (.v (.string v6.fi)), .sl (5, 2004) 0 (List.map eS s11.2.2.2.1).length, .p (.v (.int .i64 v6.fa.fk)), .p (.v (.int .i64 v6.fa.fg)), .p (.v (.int .i64 v6.fa.fu)), .p (.v (.int .u64 v6.fa.fw)), .sl (5, 2009) 0 (List.map QJ s11.2.2.2.2.1).length, .sl (5, 2010) 0 (List.map (eI .u8) s11.2.2.2.2.2.1).length, .p (.v (.int .i64 v6.f9)), .p (.v (.int .i64 v6.fa6)), .p (.v (.int .i64 v6.fa1)), .p (.v (.int .i64 v6.fb1)), .p (.v (.int .i64 v6.fa2)), .p (.v (.int .i64 v6.fv)), .p (.v (.int .i64 v6.fo.fk)), .p (.v (.string v6.fo.fa4)), .p (.v (.int .i64 v6.fo.fv)), .p (.v (.int .i64 v6.fo.fb9)), .p (.v (.int .i64 v6.fo.fb8)), .sl (5, 2022) 0 (List.map (eI .u8) s11.2.2.2.2.2.2.1).length, .p (.v (.int .i64 v7.fc6)), .p (.v (.int .i64 v7.fc8)), .p (.v (.bool v7.fc3)), .sl (5, 2026) 0 (List.map (eI .i64) s11.2.2.2.2.2.2.2.1).length, .p (.v (.int .i64 v7.fb5)), .p (.v (.int .i64 v7.fj.fa.fk)), .p (.v (.int .i64 v7.fj.fa.fg)), .p (.v (.int .i64 v7.fj.fa.fu)), .p (.v (.int .u64 v7.fj.fa.fw)), .p (.v (.int .i64 v7.fj.fy.fp)), .p (.v (.int .i64 v7.fj.fy.f0)), .p (.v (.bool v7.fj.fy.fb)), .p (.v (.int .i64 v7.fj.fc.fu)), .p (.v (.int .i64 v7.fj.fc.fg)), .p (.v (.int .u64 v7.fj.fc.fw)), .sl (5, 2038) 0 (List.map (eI .i64) s11.2.2.2.2.2.2.2.2.1).length, .p (.v (.bool v7.fj.fc.fb)), .p (.v (.int .i64 v7.fj.f4.f8)), .p (.v (.int .u64 v7.fj.f4.fw)), .sl (5, 2042) 0 (List.map (eI .i64) s11.2.2.2.2.2.2.2.2.2.1).length, .p (.v (.int .i64 v7.fj.fa7.fg)), .p (.v (.int .i64 v7.fj.fa7.fp)), .sl (5, 2045) 0 (List.map Q8 s11.2.2.2.2.2.2.2.2.2.2.1).length, .p (.v (.bool v7.fj.fa7.fb)), .p (.v (.int .i64 v7.fj.ff.fg)), .p (.v (.int .i64 v7.fj.ff.fp)), .p (.v (.int .i64 v7.fj.ff.fb6)), .sl (5, 2050) 0 (List.map Q8 s11.2.2.2.2.2.2.2.2.2.2.2.1).length, .p (.v (.bool v7.fj.ff.fb)), .p (.v (.int .i64 v7.fj.fq.fg)), .p (.v (.int .i64 v7.fj.fq.fp)), .p (.v (.int .i64 v7.fj.fq.fb2)), .sl (5, 2055) 0 (List.map (eL 1 eS) s11.2.2.2.2.2.2.2.2.2.2.2.2.1).length, .p (.v (.bool v7.fj.fq.fb)), .p (.v (.int .i64 v7.fi.fa.fk)), .p (.v (.int .i64 v7.fi.fa.fg)), .p (.v (.int .i64 v7.fi.fa.fu)), .p (.v (.int .u64 v7.fi.fa.fw)), .p (.v (.int .i64 v7.fi.fy.fp)), .p (.v (.int .i64 v7.fi.fy.f0)), .p (.v (.bool v7.fi.fy.fb)), .p (.v (.int .i64 v7.fi.fc.fu)), .p (.v (.int .i64 v7.fi.fc.fg)), .p (.v (.int .u64 v7.fi.fc.fw)), .sl (5, 2067) 0 (List.map (eI .i64) s11.2.2.2.2.2.2.2.2.2.2.2.2.2.1).length, .p (.v (.bool v7.fi.fc.fb)), .p (.v (.int .i64 v7.fi.f4.f8)), .p (.v (.int .u64 v7.fi.f4.fw)), .sl (5, 2071) 0 (List.map (eI .i64) s11.2.2.2.2.2.2.2.2.2.2.2.2.2.2.1).length, .p (.v (.int .i64 v7.fi.fa7.fg)), .p (.v (.int .i64 v7.fi.fa7.fp)), .sl (5, 2074) 0 (List.map Q8 s11.2.2.2.2.2.2.2.2.2.2.2.2.2.2.2.1).length, .p (.v (.bool v7.fi.fa7.fb)), .p (.v (.int .i64 v7.fi.ff.fg)), .p (.v (.int .i64 v7.fi.ff.fp)), .p (.v (.int .i64 v7.fi.ff.fb6)), .sl (5, 2079) 0 (List.map Q8 s11.2.2.2.2.2.2.2.2.2.2.2.2.2.2.2.2.1).length, .p (.v (.bool v7.fi.ff.fb)), .p (.v (.int .i64 v7.fi.fq.fg)), .p (.v (.int .i64 v7.fi.fq.fp)), .p (.v (.int .i64 v7.fi.fq.fb2)), .sl (5, 2084) 0 (List.map (eL 1 eS) s11.2.2.2.2.2.2.2.2.2.2.2.2.2.2.2.2.2.1).length, .p (.v (.bool v7.fi.fq.fb)), .p (.v (.int .i64 v7.fc7)), .p (.v (.int .i64 v7.fd0)), .p (.v (.int .i64 v7.fa1)), .p (.v (.int .i64 v7.fa2)), .p (.v (.int .i64 v7.fAt.fb5)), .p (.v (.int .i64 v7.fAt.fd1)), .sl (5, 2092) 0 (List.map (eI .u8) s11.2.2.2.2.2.2.2.2.2.2.2.2.2.2.2.2.2.2.1).length, .p (.v (.bool v7.fc4)), .p (.v (.int .i64 v5.fa3)), .sl (31, 1000) 0 (List.map QF s11.2.1).length, .sl (5, 2096) 0 (List.map QY s11.2.2.2.2.2.2.2.2.2.2.2.2.2.2.2.2.2.2.2).length])))]⟩ : St)) h (QB.nm [3, 5, 8, 9, 10, 31, 32, 33] [((3, 1000), (3, 1000)), ((24, 0), (31, 1000)), ((16, 3), (5, 2004)), ((16, 8), (5, 2009)), ((16, 9), (5, 2010)), ((16, 21), (5, 2022)), ((19, 3), (5, 2026)), ((19, 15), (5, 2038)), ((19, 19), (5, 2042)), ((19, 22), (5, 2045)), ((19, 27), (5, 2050)), ((19, 32), (5, 2055)), ((19, 44), (5, 2067)), ((19, 48), (5, 2071)), ((19, 51), (5, 2074)), ((19, 56), (5, 2079)), ((19, 61), (5, 2084)), ((19, 69), (5, 2092)), ((27, 0), (5, 2096)), ((5, 0), (5, 0))] Z (by kernel_rfl)) (fun X11 L11 hL11 s11 h => ?_)
          refine tD Z ?_;refine sk fun L12 hL12 => ?_;refine cn h (fun h => ?_) fun h => ?_
          · refine Qi (hL12 _ ?_);refine sk fun L13 hL13 => ?_;refine Qt ?_;refine tk fun L hL => ?_;refine dN 1 Z ?_;obtain ⟨v14, hv14, h⟩ := h;refine u0 (QU hv14) ?_;refine u0 (Y1 Z Z (gm hv14.2)) ?_;refine dN 3 Z ?_;refine rt (hL _ ?_);refine dl mixed (fun L hL => ?_);refine dN 5 Z ?_;obtain ⟨v15, hv15, h⟩ := h;refine ul (Zw (KW hv15)) ?_;obtain ⟨v16, hv16, h⟩ := h;refine u0 (QU hv16) ?_;refine dN 1 Z ?_;refine AP Z (ZD (b := (43, 0)) Z Z (Kc (x1 := (Qx.mk v16.fc5 v16.fc0 v15)) hv16.2 Z Z Z Z (.cons (.fr Z (QG Z)) .nil))) ?_;refine rd (hL _ (hL13 _ ?_));refine tE Z (hL11 _ _ h ((QB.slot 31 Z (.n (n' := (List.map QF (List.set s11.2.1 (Int.toNat s11.2.2.1) ((Qx.mk v16.fc5 v16.fc0 v15)))).length) (by simp))).trans ((QB.cells (5, 0) Z (.c (.c (.c (.c (.c (.c (.c (.c (.c (.c (.c (.c (.c (.c (.c (.c (.c (.c (.c (.c (.c (.c (.c (.c (.c (.c (.c (.c (.c (.c (.c (.c (.c (.c (.c (.c (.c (.c (.c (.c (.c (.c (.c (.c (.c (.c (.c (.c (.c (.c (.c (.c (.c (.c (.c (.c (.c (.c (.c (.c (.c (.c (.c (.c (.c (.c (.c (.c (.c (.c (.c (.c (.c (.c (.c (.c (.c (.c (.c (.c (.c (.c (.c (.c (.c (.c (.c (.c (.c (.c (.c (.c (.c (.c (.c (.cons (.n (n' := (List.map QF (List.set s11.2.1 (Int.toNat s11.2.2.1) ((Qx.mk v16.fc5 v16.fc0 v15)))).length) (by simp)) (.c .nil)))))))))))))))))))))))))))))))))))))))))))))))))))))))))))))))))))))))))))))))))))))))))))))))))).trans QB.fit)))
          · refine QT (hL10 _ _ h (QB.nm [3, 5, 8, 9, 10] [((3, 1000), (3, 1000)), ((5, 2004), (5, 2004)), ((5, 2009), (5, 2009)), ((5, 2010), (5, 2010)), ((5, 2022), (5, 2022)), ((5, 2026), (5, 2026)), ((5, 2038), (5, 2038)), ((5, 2042), (5, 2042)), ((5, 2045), (5, 2045)), ((5, 2050), (5, 2050)), ((5, 2055), (5, 2055)), ((5, 2067), (5, 2067)), ((5, 2071), (5, 2071)), ((5, 2074), (5, 2074)), ((5, 2079), (5, 2079)), ((5, 2084), (5, 2084)), ((5, 2092), (5, 2092)), ((31, 1000), (5, 2095)), ((5, 2096), (5, 2096)), ((5, 0), (5, 0))] Z (by kernel_rfl)))
    · refine QT (hL1 _ _ h QB.fit)
def Ko (a0 : (List Q5)) (a1 : Int) (a2 : Qo) (a3 : Int) (Q : ((List Q5) × Int) → Prop) : Prop :=
 ((((bif decide (a1 < 0) then true else decide (a1 ≥ ((a0.length : Int))))) = true → Q (([] : (List Q5)), 5)) ∧ (((bif decide (a1 < 0) then true else decide (a1 ≥ ((a0.length : Int))))) = false → ∃ v3, XA a2 v3 ∧ ((((v3 != 0)) = true → Q (([] : (List Q5)), v3)) ∧ (((v3 != 0)) = false → ∃ v5, ix a0 a1 v5 ∧ ((v5.fb7 = true → Q (([] : (List Q5)), 12)) ∧ (v5.fb7 = false → ∃ v6, Jh a0 v6 ∧ ∃ v7, ix v6 a1 v7 ∧ ∃ v8, Jn a2 v8 ∧ Q ((List.set (List.set (List.set (List.set v6 (Int.toNat a1) ((Q5.mk true v7.fOp v7.fm v7.fa3 v7.f7 v7.fa5))) (Int.toNat a1) ((Q5.mk true (Qo.mk v8.fk v8.fb4 v8.fi v8.fa0 v8.fa v8.f0 v8.fb0 v8.f9 v8.fa6 v8.fa1 v8.fb1 v8.fa2 v8.fv v8.fo v8.fb3) v7.fm v7.fa3 v7.f7 v7.fa5))) (Int.toNat a1) ((Q5.mk true (Qo.mk v8.fk v8.fb4 v8.fi v8.fa0 v8.fa v8.f0 v8.fb0 v8.f9 v8.fa6 v8.fa1 v8.fb1 v8.fa2 v8.fv v8.fo v8.fb3) (Qy.mk 0 0 false (([] : (List Int))) 0 (Qc.mk (Q9.mk 0 0 0 0) (Qp.mk 0 0 false) (Qa.mk 0 0 0 (([] : (List Int))) false) (Qj.mk 0 0 (([] : (List Int)))) (Qs.mk 0 0 (([] : (List Q1))) false) (Qe.mk 0 0 0 (([] : (List Q1))) false) (Qk.mk 0 0 0 (([] : (List (List ByteArray)))) false)) (Qc.mk (Q9.mk 0 0 0 0) (Qp.mk 0 0 false) (Qa.mk 0 0 0 (([] : (List Int))) false) (Qj.mk 0 0 (([] : (List Int)))) (Qs.mk 0 0 (([] : (List Q1))) false) (Qe.mk 0 0 0 (([] : (List Q1))) false) (Qk.mk 0 0 0 (([] : (List (List ByteArray)))) false)) 0 0 0 0 (Z8.mk 0 0) (([] : (List Int))) false) v7.fa3 v7.f7 v7.fa5))) (Int.toNat a1) ((Q5.mk true (Qo.mk v8.fk v8.fb4 v8.fi v8.fa0 v8.fa v8.f0 v8.fb0 v8.f9 v8.fa6 v8.fa1 v8.fb1 v8.fa2 v8.fv v8.fo v8.fb3) (Qy.mk 0 0 false (([] : (List Int))) 0 (Qc.mk (Q9.mk 0 0 0 0) (Qp.mk 0 0 false) (Qa.mk 0 0 0 (([] : (List Int))) false) (Qj.mk 0 0 (([] : (List Int)))) (Qs.mk 0 0 (([] : (List Q1))) false) (Qe.mk 0 0 0 (([] : (List Q1))) false) (Qk.mk 0 0 0 (([] : (List (List ByteArray)))) false)) (Qc.mk (Q9.mk 0 0 0 0) (Qp.mk 0 0 false) (Qa.mk 0 0 0 (([] : (List Int))) false) (Qj.mk 0 0 (([] : (List Int)))) (Qs.mk 0 0 (([] : (List Q1))) false) (Qe.mk 0 0 0 (([] : (List Q1))) false) (Qk.mk 0 0 0 (([] : (List (List ByteArray)))) false)) 0 0 0 0 (Z8.mk 0 0) (([] : (List Int))) false) a3 v7.f7 v7.fa5))), 0)))))))
def Zd (a0 : (List Q5)) (a1 : Int) (a2 : Qo) (a3 : Int) (r : (List Q5) × Int) : Prop := Ko a0 a1 a2 a3 fun x => r = x
theorem XR {a0 : (List Q5)} {a1 : Int} {a2 : Qo} {a3 : Int} {r : (List Q5) × Int} (h : Zd a0 a1 a2 a3 r) : Qq Tryz.prog 9 [.c (.l 97 (List.map Qv a0)), .c (.v (.int .i64 a1)), .agg (Zf a2), .c (.v (.int .i64 a3))] [.c (.own 97 (List.map Qv r.1)), .c (.p (.v (.int .i64 r.2)))] [] := by
  refine Qn tb Tryz.func9 Z (by kernel_rfl) Z Z (Nat.le_of_ble_eq_true Z) Z ?_;intro E;unfold Zd Ko at h;refine Z3 (fun Q hQ => ?_);refine tD Z ?_;refine sk fun L1 hL1 => ?_;refine tk fun L hL => ?_;refine dN 3 Z ?_;refine Q2 Z Z Q4 (fun hg => Qd Z Z) ?_;refine Q2 Z Z Q4 (fun hg => Qd Z Z) ?_;refine Q2 Z Z Q4 (fun hg => QA (Qb hg) Z Z Z) ?_;refine Q2 Z Z Q4 (fun hg => Qz (c := decide (a1 ≥ ((a0.length : Int)))) (Qb hg) (Qb hg) Z Z Z) ?_;refine u0 (Qm (v := .bool true) (w := .bool (decide (a1 ≥ ((a0.length : Int))))) Z Z Q4 Z Qw) ?_;refine rt (hL _ ?_);refine cn h (fun h => ?_) fun h => ?_
  · refine tD Z ?_;obtain rfl := h;exact Qf (hQ _ _ (I9 Z Z Z Z))
  · refine Qi (hL1 _ ?_);refine QS (st' := ⟨[(0, .c (.p (.l 97 (List.map Qv a0)))), (1, .c (.p (.v (.int .i64 a1)))), (3, .c (.p (.v (.int .i64 a3)))), (6, .c (.ptr (6, 0) 0 0))], [((6, 0), some (.box (List.map CV.p (Zf a2))))]⟩) QB.fit ?_;refine sk fun L2 hL2 => ?_;refine tk fun L hL => ?_;refine dN 1 Z ?_;obtain ⟨v3, hv3, h⟩ := h;refine u0 (QQ (B4 hv3)) ?_;refine dN 1 Z ?_;refine rt (hL _ ?_);refine tD Z ?_;refine cn h (fun h => ?_) fun h => ?_
    · refine tD Z ?_;obtain rfl := h;exact Qf (hQ _ _ (I9 Z Z Z Z))
    · refine Qi (hL2 _ ?_);refine sk fun L4 hL4 => ?_;refine tk fun L hL => ?_;refine dN 2 Z ?_;obtain ⟨v5, hv5, h⟩ := h;refine u0 (QC hv5) ?_;refine dN 2 Z ?_;refine rt (hL _ ?_);refine cn h (fun h => ?_) fun h => ?_
      · refine tD Z ?_;obtain rfl := h;exact Qf (hQ _ _ (I9 Z Z Z Z))
      · refine Qi (hL4 _ ?_);refine tk fun L hL => ?_;refine dN 1 Z ?_;obtain ⟨v6, hv6, h⟩ := h;refine ul (Zw (Uk hv6)) ?_;refine dN 1 Z ?_;refine rt (hL _ ?_);refine tk fun L hL => ?_;refine dN 2 Z ?_;obtain ⟨v7, hv7, h⟩ := h;refine u0 (QU hv7) ?_;refine dN 1 Z ?_;refine rt (hL _ ?_);refine tk fun L hL => ?_;refine dN 5 Z ?_;obtain ⟨v8, hv8, h⟩ := h;refine ul (Zw (WK hv8)) ?_;refine dN 4 Z ?_;refine un (Zg (x1 := (Q5.mk true v7.fOp v7.fm v7.fa3 v7.f7 v7.fa5)) hv7.2) ?_;refine dN 2 Z ?_;refine AP Z (ZD (b := (41, 21)) Z Z (ZD (b := (41, 9)) Z Z (ZD (b := (41, 8)) Z Z (ZD (b := (41, 3)) Z Z (Kc (x1 := (Q5.mk true (Qo.mk v8.fk v8.fb4 v8.fi v8.fa0 v8.fa v8.f0 v8.fb0 v8.f9 v8.fa6 v8.fa1 v8.fb1 v8.fa2 v8.fv v8.fo v8.fb3) v7.fm v7.fa3 v7.f7 v7.fa5)) (ZE hv7.2) Z Z Z Z (.c (.c (.c (.cons (.fr Z (QG Z)) (.c (.c (.c (.c (.cons (.fr Z (QG Z)) (.cons (.fr Z (QG Z)) (.c (.c (.c (.c (.c (.c (.c (.c (.c (.c (.c (.cons (.fr Z (QG Z)) .nil))))))))))))))))))))))))))) ?_
        refine dN 2 Z ?_;refine un (Kc (x1 := (Q5.mk true (Qo.mk v8.fk v8.fb4 v8.fi v8.fa0 v8.fa v8.f0 v8.fb0 v8.f9 v8.fa6 v8.fa1 v8.fb1 v8.fa2 v8.fv v8.fo v8.fb3) (Qy.mk 0 0 false (([] : (List Int))) 0 (Qc.mk (Q9.mk 0 0 0 0) (Qp.mk 0 0 false) (Qa.mk 0 0 0 (([] : (List Int))) false) (Qj.mk 0 0 (([] : (List Int)))) (Qs.mk 0 0 (([] : (List Q1))) false) (Qe.mk 0 0 0 (([] : (List Q1))) false) (Qk.mk 0 0 0 (([] : (List (List ByteArray)))) false)) (Qc.mk (Q9.mk 0 0 0 0) (Qp.mk 0 0 false) (Qa.mk 0 0 0 (([] : (List Int))) false) (Qj.mk 0 0 (([] : (List Int)))) (Qs.mk 0 0 (([] : (List Q1))) false) (Qe.mk 0 0 0 (([] : (List Q1))) false) (Qk.mk 0 0 0 (([] : (List (List ByteArray)))) false)) 0 0 0 0 (Z8.mk 0 0) (([] : (List Int))) false) v7.fa3 v7.f7 v7.fa5)) (ZE (ZE hv7.2)) Z Z Z Z (.c (.c (.c (.cons (.nil _) (.c (.c (.c (.c (.c (.c (.c (.c (.c (.c (.c (.cons (.nil _) (.c (.c (.c (.cons (.nil _) (.c (.c (.cons (.nil _) (.c (.c (.c (.c (.cons (.nil _) (.c (.c (.c (.c (.cons (.nil _) (.c (.c (.c (.c (.c (.c (.c (.c (.c (.c (.c (.cons (.nil _) (.c (.c (.c (.cons (.nil _) (.c (.c (.cons (.nil _) (.c (.c (.c (.c (.cons (.nil _) (.c (.c (.c (.c (.cons (.nil _) (.c (.c (.c (.c (.c (.c (.c (.cons (.nil _) (.c .nil)))))))))))))))))))))))))))))))))))))))))))))))))))))))))))))))))))))))) ?_
        refine dN 2 Z ?_;refine un (Zg (x1 := (Q5.mk true (Qo.mk v8.fk v8.fb4 v8.fi v8.fa0 v8.fa v8.f0 v8.fb0 v8.f9 v8.fa6 v8.fa1 v8.fb1 v8.fa2 v8.fv v8.fo v8.fb3) (Qy.mk 0 0 false (([] : (List Int))) 0 (Qc.mk (Q9.mk 0 0 0 0) (Qp.mk 0 0 false) (Qa.mk 0 0 0 (([] : (List Int))) false) (Qj.mk 0 0 (([] : (List Int)))) (Qs.mk 0 0 (([] : (List Q1))) false) (Qe.mk 0 0 0 (([] : (List Q1))) false) (Qk.mk 0 0 0 (([] : (List (List ByteArray)))) false)) (Qc.mk (Q9.mk 0 0 0 0) (Qp.mk 0 0 false) (Qa.mk 0 0 0 (([] : (List Int))) false) (Qj.mk 0 0 (([] : (List Int)))) (Qs.mk 0 0 (([] : (List Q1))) false) (Qe.mk 0 0 0 (([] : (List Q1))) false) (Qk.mk 0 0 0 (([] : (List (List ByteArray)))) false)) 0 0 0 0 (Z8.mk 0 0) (([] : (List Int))) false) a3 v7.f7 v7.fa5)) (ZE (ZE (ZE hv7.2)))) ?_;refine rt (hL _ ?_);refine tD Z ?_;obtain rfl := h;exact Qf (hQ _ _ ⟨.inr Z, _, _, _, (.cons (.s Z) (.cons (.p Z) .nil)), (.cons (.c (.own Z (by simp))) (.cons (.c (.p _)) .nil)), Z, Z⟩)
def Xg (a0 : (List Qx)) (a1 : (List Qx)) (Q : Bool → Prop) : Prop :=
 ((((((a0.length : Int)) != ((a1.length : Int)))) = true → Q false) ∧ (((((a0.length : Int)) != ((a1.length : Int)))) = false → jn (fun (p2 : Unit) => Q true) (fun (J2 : Unit → Prop) => lp (fun (X3 : Int → Prop) (s3 : Int) => (((decide (s3 < ((a0.length : Int)))) = true → jn (fun (p5 : Unit) => X3 ((IntKind.i64.wrap (s3 + 1)))) (fun (J5 : Unit → Prop) => ∃ v7, ix a0 s3 v7 ∧ ∃ v8, ix a1 s3 v8 ∧ ∃ (v9 : Qx), ((!((!(v7.fc5 == v8.fc5)))) = true → ix a0 s3 v9) ∧ ∃ (v10 : Qx), ((!((!(v7.fc5 == v8.fc5)))) = true → ix a1 s3 v10) ∧ ∃ (v11 : Qx), ((!((bif (!(v7.fc5 == v8.fc5)) then true else (v9.fc0 != v10.fc0)))) = true → ix a0 s3 v11) ∧ ∃ (v12 : Qx), ((!((bif (!(v7.fc5 == v8.fc5)) then true else (v9.fc0 != v10.fc0)))) = true → ix a1 s3 v12) ∧ ((((bif (bif (!(v7.fc5 == v8.fc5)) then true else (v9.fc0 != v10.fc0)) then true else (((v11.fa0.length : Int)) != ((v12.fa0.length : Int))))) = true → Q false) ∧ (((bif (bif (!(v7.fc5 == v8.fc5)) then true else (v9.fc0 != v10.fc0)) then true else (((v11.fa0.length : Int)) != ((v12.fa0.length : Int))))) = false → lp (fun (X13 : Int → Prop) (s13 : Int) => ∃ v15, ix a0 s3 v15 ∧ (((decide (s13 < ((v15.fa0.length : Int)))) = true → ∃ v17, ix a0 s3 v17 ∧ ∃ v18, ix v17.fa0 s13 v18 ∧ ∃ v19, ix a1 s3 v19 ∧ ∃ v20, ix v19.fa0 s13 v20 ∧ ((((!(v18.toList == v20.toList))) = true → Q false) ∧ (((!(v18.toList == v20.toList))) = false → X13 ((IntKind.i64.wrap (s13 + 1)))))) ∧ ((decide (s13 < ((v15.fa0.length : Int)))) = false → J5 (())))) 0)))) ∧ ((decide (s3 < ((a0.length : Int)))) = false → J2 (())))) 0)))
def KJ (a0 : (List Qx)) (a1 : (List Qx)) (r : Bool) : Prop := Xg a0 a1 fun x => r = x
theorem AA {a0 : (List Qx)} {a1 : (List Qx)} {r : Bool} (h : KJ a0 a1 r) : Qq Tryz.prog 17 [.c (.l 3 (List.map QF a0)), .c (.l 3 (List.map QF a1))] [.c (.p (.v (.bool r)))] [] := by
  refine Qn tb Tryz.func17 Z (by kernel_rfl) Z Z (Nat.le_of_ble_eq_true Z) Z ?_;intro E;unfold KJ Xg at h;refine Z3 (fun Q hQ => ?_);refine tD Z ?_;refine sk fun L1 hL1 => ?_;refine tk fun L hL => ?_;refine dN 1 Z ?_;refine u0 QA ?_;refine dN 1 Z ?_;refine u0 QA ?_;refine dN 1 Z ?_;refine rt (hL _ ?_);refine cn h (fun h => ?_) fun h => ?_
  · refine tD Z ?_;obtain rfl := h;exact Qf (hQ _ _ (Zt Z Z))
  · refine Qi (hL1 _ ?_);refine Z5 (fun (p2 : Unit) => (⟨[], []⟩ : St)) h (fun p2 h => ?_) (fun J2 L2 hL2 h => ?_)
    · refine tD Z ?_;obtain rfl := h;exact Qf (hQ _ _ (Zt Z Z))
    · refine tD Z ?_;refine Qt ?_;refine Zs (fun (s3 : Int) => (⟨[(0, .c (.p (.l 3 (List.map QF a0)))), (1, .c (.p (.l 3 (List.map QF a1)))), (5, .c (.p (.v (.int .i64 s3))))], []⟩ : St)) h QB.fit (fun X3 L3 hL3 s3 h => ?_);refine sk fun L4 hL4 => ?_;refine tk fun L hL => ?_;refine dN 2 Z ?_;refine u0 QA ?_;refine dN 1 Z ?_;refine rt (hL _ ?_);refine cn h (fun h => ?_) fun h => ?_
      · refine Qi (hL4 _ ?_);refine Z5 (fun (p5 : Unit) => (⟨[(0, .c (.p (.l 3 (List.map QF a0)))), (1, .c (.p (.l 3 (List.map QF a1)))), (5, .c (.p (.v (.int .i64 s3))))], []⟩ : St)) h (fun p5 h => ?_) (fun J5 L5 hL5 h => ?_)
        · refine tE Z (hL3 _ _ h QB.fit)
        · refine Qt ?_;refine sk fun L6 hL6 => ?_;refine dk mixed (fun L hL => ?_);refine dN 2 Z ?_;obtain ⟨v7, hv7, h⟩ := h;refine u0 (QC hv7) ?_;refine dN 4 Z ?_;obtain ⟨v8, hv8, h⟩ := h;refine u0 (QC hv8) ?_;refine dN 4 Z ?_;refine Q2 Z Z Q4 (fun hg => Qd Z Z) ?_;refine Q2 Z Z Q4 (fun hg => Qd Z Z) ?_;obtain ⟨v9, hv9, h⟩ := h;refine Q2 Z Z Q4 (fun hg => QC (hv9 hg) (Qb hg) (Qb hg) Z Z Z Z Z Z) ?_;refine Q2 Z Z Q4 (fun hg => ZO (Qb hg) Z Z Z Z Z Z Z) ?_;refine Q2 Z Z Q4 (fun hg => Zm (Qb hg) Z Z Z Z) ?_;refine Q2 Z Z Q4 (fun hg => Qd Z Z) ?_;refine Q2 Z Z Q4 (fun hg => Qd Z Z) ?_;obtain ⟨v10, hv10, h⟩ := h;refine Q2 Z Z Q4 (fun hg => QC (hv10 hg) (Qb hg) (Qb hg) Z Z Z Z Z Z) ?_;refine Q2 Z Z Q4 (fun hg => ZO (Qb hg) Z Z Z Z Z Z Z) ?_;refine Q2 Z Z Q4 (fun hg => Zm (Qb hg) Z Z Z Z) ?_;refine Q2 Z Z Q4 (fun hg => Qz (c := (v9.fc0 != v10.fc0)) (Qb hg) (Qb hg) Z Z Z) ?_;refine u0 (Qm (v := .bool true) (w := .bool ((v9.fc0 != v10.fc0))) Z Z Q4 Z Qw) ?_;refine dN 1 Z ?_;refine Q2 Z Z Q4 (fun hg => Qd Z Z) ?_
          refine Q2 Z Z Q4 (fun hg => Qd Z Z) ?_;obtain ⟨v11, hv11, h⟩ := h;refine Q2 Z Z Q4 (fun hg => QC (hv11 hg) (Qb hg) (Qb hg) Z Z Z Z Z Z) ?_;refine Q2 Z Z Q4 (fun hg => ZO (Qb hg) Z Z Z Z Z Z Z) ?_;refine Q2 Z Z Q4 (fun hg => Zm (Qb hg) Z Z Z Z) ?_;refine Q2 Z Z Q4 (fun hg => QA (Qb hg) Z Z Z) ?_;refine Q2 Z Z Q4 (fun hg => Qd Z Z) ?_;refine Q2 Z Z Q4 (fun hg => Qd Z Z) ?_;obtain ⟨v12, hv12, h⟩ := h;refine Q2 Z Z Q4 (fun hg => QC (hv12 hg) (Qb hg) (Qb hg) Z Z Z Z Z Z) ?_;refine Q2 Z Z Q4 (fun hg => ZO (Qb hg) Z Z Z Z Z Z Z) ?_;refine Q2 Z Z Q4 (fun hg => Zm (Qb hg) Z Z Z Z) ?_;refine Q2 Z Z Q4 (fun hg => QA (Qb hg) Z Z Z) ?_;refine Q2 Z Z Q4 (fun hg => Qz (c := (((v11.fa0.length : Int)) != ((v12.fa0.length : Int)))) (Qb hg) (Qb hg) Z Z Z) ?_;refine u0 (Qm (v := .bool true) (w := .bool ((((v11.fa0.length : Int)) != ((v12.fa0.length : Int))))) Z Z Q4 Z Qw) ?_;refine rd (hL _ ?_);refine cn h (fun h => ?_) fun h => ?_
          · refine tD Z ?_;refine QS (st' := ⟨[(4, .c (.p (.v (.bool false))))], []⟩) QB.fit ?_;obtain rfl := h;exact Qf (hQ _ _ (Zt Z Z))
          · refine Qi (hL6 _ ?_);refine QS (st' := ⟨[(0, .c (.p (.l 3 (List.map QF a0)))), (1, .c (.p (.l 3 (List.map QF a1)))), (5, .c (.p (.v (.int .i64 s3))))], []⟩) QB.fit ?_;refine tD Z ?_;refine Qt ?_;refine Zs (fun (s13 : Int) => (⟨[(0, .c (.p (.l 3 (List.map QF a0)))), (1, .c (.p (.l 3 (List.map QF a1)))), (5, .c (.p (.v (.int .i64 s3)))), (6, .c (.p (.v (.int .i64 s13))))], []⟩ : St)) h QB.fit (fun X13 L13 hL13 s13 h => ?_);refine sk fun L14 hL14 => ?_;refine tk fun L hL => ?_;refine dN 3 Z ?_;obtain ⟨v15, hv15, h⟩ := h;refine u0 (QC hv15) ?_;refine dN 2 Z ?_;refine u0 QA ?_;refine dN 1 Z ?_;refine rt (hL _ ?_);refine cn h (fun h => ?_) fun h => ?_
            · refine Qi (hL14 _ ?_);refine sk fun L16 hL16 => ?_;refine Qt ?_;refine dk mixed (fun L hL => ?_);refine dN 2 Z ?_;obtain ⟨v17, hv17, h⟩ := h;refine u0 (QC hv17) ?_;refine dN 3 Z ?_;obtain ⟨v18, hv18, h⟩ := h;refine u0 (QC hv18) ?_;refine dN 3 Z ?_;obtain ⟨v19, hv19, h⟩ := h;refine u0 (QC hv19) ?_;refine dN 3 Z ?_;obtain ⟨v20, hv20, h⟩ := h;refine u0 (QC hv20) ?_;refine dN 2 Z ?_;refine rd (hL _ ?_);refine cn h (fun h => ?_) fun h => ?_
              · refine tD Z ?_;obtain rfl := h;exact Qf (hQ _ _ (Zt Z Z))
              · refine Qi (hL16 _ ?_);refine tE Z (hL13 _ _ h QB.fit)
            · refine QT (hL5 _ _ h QB.fit)
      · refine QT (hL2 _ _ h QB.fit)
def XW (a0 : (List QI)) (a1 : (List QI)) (Q : Bool → Prop) : Prop :=
 ((((((a0.length : Int)) != ((a1.length : Int)))) = true → Q false) ∧ (((((a0.length : Int)) != ((a1.length : Int)))) = false → jn (fun (p2 : Unit) => Q true) (fun (J2 : Unit → Prop) => lp (fun (X3 : Int → Prop) (s3 : Int) => (((decide (s3 < ((a0.length : Int)))) = true → ∃ v6, ix a0 s3 v6 ∧ ∃ v7, ix a1 s3 v7 ∧ ((((!((v6.fc5 == v7.fc5) && ((v6.fc0 == v7.fc0) && ((v6.fb4.toList == v7.fb4.toList) && ((v6.fd3 == v7.fd3) && true)))))) = true → Q false) ∧ (((!((v6.fc5 == v7.fc5) && ((v6.fc0 == v7.fc0) && ((v6.fb4.toList == v7.fb4.toList) && ((v6.fd3 == v7.fd3) && true)))))) = false → X3 ((IntKind.i64.wrap (s3 + 1)))))) ∧ ((decide (s3 < ((a0.length : Int)))) = false → J2 (())))) 0)))
def Jp (a0 : (List QI)) (a1 : (List QI)) (r : Bool) : Prop := XW a0 a1 fun x => r = x
theorem Bt {a0 : (List QI)} {a1 : (List QI)} {r : Bool} (h : Jp a0 a1 r) : Qq Tryz.prog 18 [.c (.l 4 (List.map QY a0)), .c (.l 4 (List.map QY a1))] [.c (.p (.v (.bool r)))] [] := by
  refine Qn tb Tryz.func18 Z (by kernel_rfl) Z Z (Nat.le_of_ble_eq_true Z) Z ?_;intro E;unfold Jp XW at h;refine Z3 (fun Q hQ => ?_);refine tD Z ?_;refine sk fun L1 hL1 => ?_;refine tk fun L hL => ?_;refine dN 1 Z ?_;refine u0 QA ?_;refine dN 1 Z ?_;refine u0 QA ?_;refine dN 1 Z ?_;refine rt (hL _ ?_);refine cn h (fun h => ?_) fun h => ?_
  · refine tD Z ?_;obtain rfl := h;exact Qf (hQ _ _ (Zt Z Z))
  · refine Qi (hL1 _ ?_);refine Z5 (fun (p2 : Unit) => (⟨[], []⟩ : St)) h (fun p2 h => ?_) (fun J2 L2 hL2 h => ?_)
    · refine tD Z ?_;obtain rfl := h;exact Qf (hQ _ _ (Zt Z Z))
    · refine tD Z ?_;refine Qt ?_;refine Zs (fun (s3 : Int) => (⟨[(0, .c (.p (.l 4 (List.map QY a0)))), (1, .c (.p (.l 4 (List.map QY a1)))), (5, .c (.p (.v (.int .i64 s3))))], []⟩ : St)) h QB.fit (fun X3 L3 hL3 s3 h => ?_);refine sk fun L4 hL4 => ?_;refine tk fun L hL => ?_;refine dN 2 Z ?_;refine u0 QA ?_;refine dN 1 Z ?_;refine rt (hL _ ?_);refine cn h (fun h => ?_) fun h => ?_
      · refine Qi (hL4 _ ?_);refine sk fun L5 hL5 => ?_;refine Qt ?_;refine dk mixed (fun L hL => ?_);refine dN 2 Z ?_;obtain ⟨v6, hv6, h⟩ := h;refine u0 (QC hv6) ?_;refine dN 3 Z ?_;obtain ⟨v7, hv7, h⟩ := h;refine u0 (QC hv7) ?_;refine dN 1 Z ?_;refine u0 (AO (us := [.bool v6.fc5, .int .i64 v6.fc0, .string v6.fb4, .int .i64 v6.fd3]) (vs := [.bool v7.fc5, .int .i64 v7.fc0, .string v7.fb4, .int .i64 v7.fd3]) (c := (!((v6.fc5 == v7.fc5) && ((v6.fc0 == v7.fc0) && ((v6.fb4.toList == v7.fb4.toList) && ((v6.fd3 == v7.fd3) && true)))))) Z Z (by kernel_rfl)) ?_;refine rd (hL _ ?_);refine cn h (fun h => ?_) fun h => ?_
        · refine tD Z ?_;obtain rfl := h;exact Qf (hQ _ _ (Zt Z Z))
        · refine Qi (hL5 _ ?_);refine tE Z (hL3 _ _ h QB.fit)
      · refine QT (hL2 _ _ h QB.fit)
def Aa (a0 : Qo) (a1 : Qo) (Q : Bool → Prop) : Prop :=
 ((((bif (bif (bif (bif (bif (bif (bif (bif (bif (bif (bif (bif (bif (bif (a0.fk != a1.fk) then true else (!(a0.fb4.toList == a1.fb4.toList))) then true else (!(a0.fi.toList == a1.fi.toList))) then true else (!((a0.fa.fk == a1.fa.fk) && ((a0.fa.fg == a1.fa.fg) && ((a0.fa.fu == a1.fa.fu) && ((a0.fa.fw == a1.fa.fw) && true)))))) then true else (!((strOfNums a0.fb0).toList == (strOfNums a1.fb0).toList))) then true else (a0.f9 != a1.f9)) then true else (a0.fa6 != a1.fa6)) then true else (a0.fa1 != a1.fa1)) then true else (a0.fb1 != a1.fb1)) then true else (a0.fa2 != a1.fa2)) then true else (a0.fv != a1.fv)) then true else (!((a0.fo.fk == a1.fo.fk) && ((a0.fo.fa4.toList == a1.fo.fa4.toList) && ((a0.fo.fv == a1.fo.fv) && ((a0.fo.fb9 == a1.fo.fb9) && ((a0.fo.fb8 == a1.fo.fb8) && true))))))) then true else (!((strOfNums a0.fb3).toList == (strOfNums a1.fb3).toList))) then true else (((a0.fa0.length : Int)) != ((a1.fa0.length : Int)))) then true else (((a0.f0.length : Int)) != ((a1.f0.length : Int))))) = true → Q false) ∧ (((bif (bif (bif (bif (bif (bif (bif (bif (bif (bif (bif (bif (bif (bif (a0.fk != a1.fk) then true else (!(a0.fb4.toList == a1.fb4.toList))) then true else (!(a0.fi.toList == a1.fi.toList))) then true else (!((a0.fa.fk == a1.fa.fk) && ((a0.fa.fg == a1.fa.fg) && ((a0.fa.fu == a1.fa.fu) && ((a0.fa.fw == a1.fa.fw) && true)))))) then true else (!((strOfNums a0.fb0).toList == (strOfNums a1.fb0).toList))) then true else (a0.f9 != a1.f9)) then true else (a0.fa6 != a1.fa6)) then true else (a0.fa1 != a1.fa1)) then true else (a0.fb1 != a1.fb1)) then true else (a0.fa2 != a1.fa2)) then true else (a0.fv != a1.fv)) then true else (!((a0.fo.fk == a1.fo.fk) && ((a0.fo.fa4.toList == a1.fo.fa4.toList) && ((a0.fo.fv == a1.fo.fv) && ((a0.fo.fb9 == a1.fo.fb9) && ((a0.fo.fb8 == a1.fo.fb8) && true))))))) then true else (!((strOfNums a0.fb3).toList == (strOfNums a1.fb3).toList))) then true else (((a0.fa0.length : Int)) != ((a1.fa0.length : Int)))) then true else (((a0.f0.length : Int)) != ((a1.f0.length : Int))))) = false → jn (fun (p2 : Unit) => jn (fun (p8 : Unit) => Q true) (fun (J8 : Unit → Prop) => lp (fun (X9 : Int → Prop) (s9 : Int) => (((decide (s9 < ((a0.f0.length : Int)))) = true → ∃ v12, ix a0.f0 s9 v12 ∧ ∃ v13, ix a1.f0 s9 v13 ∧ ((((!((v12.fa4.toList == v13.fa4.toList) && ((v12.fa8 == v13.fa8) && true)))) = true → Q false) ∧ (((!((v12.fa4.toList == v13.fa4.toList) && ((v12.fa8 == v13.fa8) && true)))) = false → X9 ((IntKind.i64.wrap (s9 + 1)))))) ∧ ((decide (s9 < ((a0.f0.length : Int)))) = false → J8 (())))) 0)) (fun (J2 : Unit → Prop) => lp (fun (X3 : Int → Prop) (s3 : Int) => (((decide (s3 < ((a0.fa0.length : Int)))) = true → ∃ v6, ix a0.fa0 s3 v6 ∧ ∃ v7, ix a1.fa0 s3 v7 ∧ ((((!(v6.toList == v7.toList))) = true → Q false) ∧ (((!(v6.toList == v7.toList))) = false → X3 ((IntKind.i64.wrap (s3 + 1)))))) ∧ ((decide (s3 < ((a0.fa0.length : Int)))) = false → J2 (())))) 0)))
def YV (a0 : Qo) (a1 : Qo) (r : Bool) : Prop := Aa a0 a1 fun x => r = x
theorem Hi {a0 : Qo} {a1 : Qo} {r : Bool} (h : YV a0 a1 r) : Qq Tryz.prog 19 [.agg (Zf a0), .agg (Zf a1)] [.c (.p (.v (.bool r)))] [] := by
  refine Qn tb Tryz.func19 Z (by kernel_rfl) Z Z (Nat.le_of_ble_eq_true Z) Z ?_;intro E;unfold YV Aa at h;refine Z3 (fun Q hQ => ?_);refine tD Z ?_;refine sk fun L1 hL1 => ?_;refine tk fun L hL => ?_;refine dN 6 Z ?_;refine Q2 Z Z Q4 (fun hg => Q7 Z Z Z Z Z Z Z Z Z) ?_;refine Q2 Z Z Q4 (fun hg => Q3 (Qb hg) Z Z Z Z Z) ?_;refine Q2 Z Z Q4 (fun hg => Q7 Z Z Z Z Z Z Z Z Z) ?_;refine Q2 Z Z Q4 (fun hg => Q3 (Qb hg) Z Z Z Z Z) ?_;refine Q2 Z Z Q4 (fun hg => Vy (c := (!(a0.fb4.toList == a1.fb4.toList))) (Qb hg) (Qb hg) Z Z Z) ?_;refine u0 (Qm (v := .bool true) (w := .bool ((!(a0.fb4.toList == a1.fb4.toList)))) Z Z Q4 Z Qw) ?_;refine dN 1 Z ?_;refine Q2 Z Z Q4 (fun hg => Q7 Z Z Z Z Z Z Z Z Z) ?_;refine Q2 Z Z Q4 (fun hg => Q3 (Qb hg) Z Z Z Z Z) ?_;refine Q2 Z Z Q4 (fun hg => Q7 Z Z Z Z Z Z Z Z Z) ?_;refine Q2 Z Z Q4 (fun hg => Q3 (Qb hg) Z Z Z Z Z) ?_;refine Q2 Z Z Q4 (fun hg => Vy (c := (!(a0.fi.toList == a1.fi.toList))) (Qb hg) (Qb hg) Z Z Z) ?_;refine u0 (Qm (v := .bool true) (w := .bool ((!(a0.fi.toList == a1.fi.toList)))) Z Z Q4 Z Qw) ?_
  refine dN 1 Z ?_;refine Q2 Z Z Q4 (fun hg => Q7 Z Z Z Z Z Z Z Z Z) ?_;refine Q2 Z Z Q4 (fun hg => QR (Qb hg) Z Z Z Z Z Z) ?_;refine Q2 Z Z Q4 (fun hg => Q7 Z Z Z Z Z Z Z Z Z) ?_;refine Q2 Z Z Q4 (fun hg => QR (Qb hg) Z Z Z Z Z Z) ?_;refine Q2 Z Z Q4 (fun hg => AO (us := [.int .i64 a0.fa.fk, .int .i64 a0.fa.fg, .int .i64 a0.fa.fu, .int .u64 a0.fa.fw]) (vs := [.int .i64 a1.fa.fk, .int .i64 a1.fa.fg, .int .i64 a1.fa.fu, .int .u64 a1.fa.fw]) (c := (!((a0.fa.fk == a1.fa.fk) && ((a0.fa.fg == a1.fa.fg) && ((a0.fa.fu == a1.fa.fu) && ((a0.fa.fw == a1.fa.fw) && true)))))) (Qb hg) (Qb hg) (by kernel_rfl) Z Z Z Z Z Z) ?_;refine u0 (Qm (v := .bool true) (w := .bool ((!((a0.fa.fk == a1.fa.fk) && ((a0.fa.fg == a1.fa.fg) && ((a0.fa.fu == a1.fa.fu) && ((a0.fa.fw == a1.fa.fw) && true))))))) Z Z Q4 Z Qw) ?_;refine dN 1 Z ?_;refine Q2 Z Z Q4 (fun hg => Q7 Z Z Z Z Z Z Z Z Z) ?_;refine Q2 Z Z Q4 (fun hg => Q3 (Qb hg) Z Z Z Z Z) ?_
  refine Q2 Z Z Q4 (fun hg => W4 (Qb hg) Z Z Z Z Z Z Z) ?_;refine Q2 Z Z Q4 (fun hg => Q7 Z Z Z Z Z Z Z Z Z) ?_;refine Q2 Z Z Q4 (fun hg => Q3 (Qb hg) Z Z Z Z Z) ?_;refine Q2 Z Z Q4 (fun hg => W4 (Qb hg) Z Z Z Z Z Z Z) ?_;refine Q2 Z Z Q4 (fun hg => Vy (c := (!((strOfNums a0.fb0).toList == (strOfNums a1.fb0).toList))) (Qb hg) (Qb hg) Z Z Z) ?_;refine u0 (Qm (v := .bool true) (w := .bool ((!((strOfNums a0.fb0).toList == (strOfNums a1.fb0).toList)))) Z Z Q4 Z Qw) ?_;refine dN 1 Z ?_;refine Q2 Z Z Q4 (fun hg => Q7 Z Z Z Z Z Z Z Z Z) ?_;refine Q2 Z Z Q4 (fun hg => Q3 (Qb hg) Z Z Z Z Z) ?_;refine Q2 Z Z Q4 (fun hg => Q7 Z Z Z Z Z Z Z Z Z) ?_;refine Q2 Z Z Q4 (fun hg => Q3 (Qb hg) Z Z Z Z Z) ?_;refine Q2 Z Z Q4 (fun hg => Qz (c := (a0.f9 != a1.f9)) (Qb hg) (Qb hg) Z Z Z) ?_;refine u0 (Qm (v := .bool true) (w := .bool ((a0.f9 != a1.f9))) Z Z Q4 Z Qw) ?_;refine dN 1 Z ?_;refine Q2 Z Z Q4 (fun hg => Q7 Z Z Z Z Z Z Z Z Z) ?_;refine Q2 Z Z Q4 (fun hg => Q3 (Qb hg) Z Z Z Z Z) ?_
  refine Q2 Z Z Q4 (fun hg => Q7 Z Z Z Z Z Z Z Z Z) ?_;refine Q2 Z Z Q4 (fun hg => Q3 (Qb hg) Z Z Z Z Z) ?_;refine Q2 Z Z Q4 (fun hg => Qz (c := (a0.fa6 != a1.fa6)) (Qb hg) (Qb hg) Z Z Z) ?_;refine u0 (Qm (v := .bool true) (w := .bool ((a0.fa6 != a1.fa6))) Z Z Q4 Z Qw) ?_;refine dN 1 Z ?_;refine Q2 Z Z Q4 (fun hg => Q7 Z Z Z Z Z Z Z Z Z) ?_;refine Q2 Z Z Q4 (fun hg => Q3 (Qb hg) Z Z Z Z Z) ?_;refine Q2 Z Z Q4 (fun hg => Q7 Z Z Z Z Z Z Z Z Z) ?_;refine Q2 Z Z Q4 (fun hg => Q3 (Qb hg) Z Z Z Z Z) ?_;refine Q2 Z Z Q4 (fun hg => Qz (c := (a0.fa1 != a1.fa1)) (Qb hg) (Qb hg) Z Z Z) ?_;refine u0 (Qm (v := .bool true) (w := .bool ((a0.fa1 != a1.fa1))) Z Z Q4 Z Qw) ?_;refine dN 1 Z ?_;refine Q2 Z Z Q4 (fun hg => Q7 Z Z Z Z Z Z Z Z Z) ?_;refine Q2 Z Z Q4 (fun hg => Q3 (Qb hg) Z Z Z Z Z) ?_;refine Q2 Z Z Q4 (fun hg => Q7 Z Z Z Z Z Z Z Z Z) ?_;refine Q2 Z Z Q4 (fun hg => Q3 (Qb hg) Z Z Z Z Z) ?_;refine Q2 Z Z Q4 (fun hg => Qz (c := (a0.fb1 != a1.fb1)) (Qb hg) (Qb hg) Z Z Z) ?_
  refine u0 (Qm (v := .bool true) (w := .bool ((a0.fb1 != a1.fb1))) Z Z Q4 Z Qw) ?_;refine dN 1 Z ?_;refine Q2 Z Z Q4 (fun hg => Q7 Z Z Z Z Z Z Z Z Z) ?_;refine Q2 Z Z Q4 (fun hg => Q3 (Qb hg) Z Z Z Z Z) ?_;refine Q2 Z Z Q4 (fun hg => Q7 Z Z Z Z Z Z Z Z Z) ?_;refine Q2 Z Z Q4 (fun hg => Q3 (Qb hg) Z Z Z Z Z) ?_;refine Q2 Z Z Q4 (fun hg => Qz (c := (a0.fa2 != a1.fa2)) (Qb hg) (Qb hg) Z Z Z) ?_;refine u0 (Qm (v := .bool true) (w := .bool ((a0.fa2 != a1.fa2))) Z Z Q4 Z Qw) ?_;refine dN 1 Z ?_;refine Q2 Z Z Q4 (fun hg => Q7 Z Z Z Z Z Z Z Z Z) ?_;refine Q2 Z Z Q4 (fun hg => Q3 (Qb hg) Z Z Z Z Z) ?_;refine Q2 Z Z Q4 (fun hg => Q7 Z Z Z Z Z Z Z Z Z) ?_;refine Q2 Z Z Q4 (fun hg => Q3 (Qb hg) Z Z Z Z Z) ?_;refine Q2 Z Z Q4 (fun hg => Qz (c := (a0.fv != a1.fv)) (Qb hg) (Qb hg) Z Z Z) ?_;refine u0 (Qm (v := .bool true) (w := .bool ((a0.fv != a1.fv))) Z Z Q4 Z Qw) ?_;refine dN 1 Z ?_;refine Q2 Z Z Q4 (fun hg => Q7 Z Z Z Z Z Z Z Z Z) ?_;refine Q2 Z Z Q4 (fun hg => QR (Qb hg) Z Z Z Z Z Z) ?_
  refine Q2 Z Z Q4 (fun hg => Q7 Z Z Z Z Z Z Z Z Z) ?_;refine Q2 Z Z Q4 (fun hg => QR (Qb hg) Z Z Z Z Z Z) ?_;refine Q2 Z Z Q4 (fun hg => AO (us := [.int .i64 a0.fo.fk, .string a0.fo.fa4, .int .i64 a0.fo.fv, .int .i64 a0.fo.fb9, .int .i64 a0.fo.fb8]) (vs := [.int .i64 a1.fo.fk, .string a1.fo.fa4, .int .i64 a1.fo.fv, .int .i64 a1.fo.fb9, .int .i64 a1.fo.fb8]) (c := (!((a0.fo.fk == a1.fo.fk) && ((a0.fo.fa4.toList == a1.fo.fa4.toList) && ((a0.fo.fv == a1.fo.fv) && ((a0.fo.fb9 == a1.fo.fb9) && ((a0.fo.fb8 == a1.fo.fb8) && true))))))) (Qb hg) (Qb hg) (by kernel_rfl) Z Z Z Z Z Z) ?_;refine u0 (Qm (v := .bool true) (w := .bool ((!((a0.fo.fk == a1.fo.fk) && ((a0.fo.fa4.toList == a1.fo.fa4.toList) && ((a0.fo.fv == a1.fo.fv) && ((a0.fo.fb9 == a1.fo.fb9) && ((a0.fo.fb8 == a1.fo.fb8) && true)))))))) Z Z Q4 Z Qw) ?_;refine dN 1 Z ?_;refine Q2 Z Z Q4 (fun hg => Q7 Z Z Z Z Z Z Z Z Z) ?_;refine Q2 Z Z Q4 (fun hg => Q3 (Qb hg) Z Z Z Z Z) ?_
  refine Q2 Z Z Q4 (fun hg => W4 (Qb hg) Z Z Z Z Z Z Z) ?_;refine Q2 Z Z Q4 (fun hg => Q7 Z Z Z Z Z Z Z Z Z) ?_;refine Q2 Z Z Q4 (fun hg => Q3 (Qb hg) Z Z Z Z Z) ?_;refine Q2 Z Z Q4 (fun hg => W4 (Qb hg) Z Z Z Z Z Z Z) ?_;refine Q2 Z Z Q4 (fun hg => Vy (c := (!((strOfNums a0.fb3).toList == (strOfNums a1.fb3).toList))) (Qb hg) (Qb hg) Z Z Z) ?_;refine u0 (Qm (v := .bool true) (w := .bool ((!((strOfNums a0.fb3).toList == (strOfNums a1.fb3).toList)))) Z Z Q4 Z Qw) ?_;refine dN 1 Z ?_;refine Q2 Z Z Q4 (fun hg => Q7 Z Z Z Z Z Z Z Z Z) ?_;refine Q2 Z Z Q4 (fun hg => Q3 (Qb hg) Z Z Z Z Z) ?_;refine Q2 Z Z Q4 (fun hg => QA (Qb hg) Z Z Z) ?_;refine Q2 Z Z Q4 (fun hg => Q7 Z Z Z Z Z Z Z Z Z) ?_;refine Q2 Z Z Q4 (fun hg => Q3 (Qb hg) Z Z Z Z Z) ?_;refine Q2 Z Z Q4 (fun hg => QA (Qb hg) Z Z Z) ?_;refine Q2 Z Z Q4 (fun hg => Qz (c := (((a0.fa0.length : Int)) != ((a1.fa0.length : Int)))) (Qb hg) (Qb hg) Z Z Z) ?_;refine u0 (Qm (v := .bool true) (w := .bool ((((a0.fa0.length : Int)) != ((a1.fa0.length : Int))))) Z Z Q4 Z Qw) ?_
  refine dN 1 Z ?_;refine Q2 Z Z Q4 (fun hg => Q7 Z Z Z Z Z Z Z Z Z) ?_;refine Q2 Z Z Q4 (fun hg => Q3 (Qb hg) Z Z Z Z Z) ?_;refine Q2 Z Z Q4 (fun hg => QA (Qb hg) Z Z Z) ?_;refine Q2 Z Z Q4 (fun hg => Q7 Z Z Z Z Z Z Z Z Z) ?_;refine Q2 Z Z Q4 (fun hg => Q3 (Qb hg) Z Z Z Z Z) ?_;refine Q2 Z Z Q4 (fun hg => QA (Qb hg) Z Z Z) ?_;refine Q2 Z Z Q4 (fun hg => Qz (c := (((a0.f0.length : Int)) != ((a1.f0.length : Int)))) (Qb hg) (Qb hg) Z Z Z) ?_;refine u0 (Qm (v := .bool true) (w := .bool ((((a0.f0.length : Int)) != ((a1.f0.length : Int))))) Z Z Q4 Z Qw) ?_;refine rt (hL _ ?_);refine QS (st' := ⟨[(2, .c (.ptr (2, 0) 0 0)), (3, .c (.ptr (3, 0) 0 0)), (117, .c (.p (.v (.bool ((bif (bif (bif (bif (bif (bif (bif (bif (bif (bif (bif (bif (bif (bif (a0.fk != a1.fk) then true else (!(a0.fb4.toList == a1.fb4.toList))) then true else (!(a0.fi.toList == a1.fi.toList))) then true else (!((a0.fa.fk == a1.fa.fk) && ((a0.fa.fg == a1.fa.fg) && ((a0.fa.fu == a1.fa.fu) && ((a0.fa.fw == a1.fa.fw) && true)))))) then true else (!((strOfNums a0.fb0).toList == (strOfNums a1.fb0).toList))) then true else (a0.f9 != a1.f9)) then true else (a0.fa6 != a1.fa6)) then true else (a0.fa1 != a1.fa1)) then true else (a0.fb1 != a1.fb1)) then true else (a0.fa2 != a1.fa2)) then true else (a0.fv != a1.fv)) then true else (!((a0.fo.fk == a1.fo.fk) && ((a0.fo.fa4.toList == a1.fo.fa4.toList) && ((a0.fo.fv == a1.fo.fv) && ((a0.fo.fb9 == a1.fo.fb9) && ((a0.fo.fb8 == a1.fo.fb8) && true))))))) then true else (!((strOfNums a0.fb3).toList == (strOfNums a1.fb3).toList))) then true else (((a0.fa0.length : Int)) != ((a1.fa0.length : Int)))) then true else (((a0.f0.length : Int)) != ((a1.f0.length : Int)))))))))], [((2, 0), some (.box (List.map CV.p (Zf a0)))), ((3, 0), some (.box (List.map CV.p (Zf a1))))]⟩) QB.fit ?_
  refine cn h (fun h => ?_) fun h => ?_
  · refine tD Z ?_;obtain rfl := h;exact Qf (hQ _ _ (Zt Z Z))
  · refine Qi (hL1 _ ?_);refine Z5 (fun (p2 : Unit) => (⟨[(2, .c (.ptr (2, 0) 0 0)), (3, .c (.ptr (3, 0) 0 0))], [((2, 0), some (.box (List.map CV.p (Zf a0)))), ((3, 0), some (.box (List.map CV.p (Zf a1))))]⟩ : St)) h (fun p2 h => ?_) (fun J2 L2 hL2 h => ?_)
    · refine Z5 (fun (p8 : Unit) => (⟨[], []⟩ : St)) h (fun p8 h => ?_) (fun J8 L8 hL8 h => ?_)
      · refine tD Z ?_;obtain rfl := h;exact Qf (hQ _ _ (Zt Z Z))
      · refine tD Z ?_;refine Qt ?_;refine Zs (fun (s9 : Int) => (⟨[(2, .c (.ptr (2, 0) 0 0)), (3, .c (.ptr (3, 0) 0 0)), (6, .c (.p (.v (.int .i64 s9))))], [((2, 0), some (.box (List.map CV.p (Zf a0)))), ((3, 0), some (.box (List.map CV.p (Zf a1))))]⟩ : St)) h QB.fit (fun X9 L9 hL9 s9 h => ?_);refine sk fun L10 hL10 => ?_;refine tk fun L hL => ?_;refine dN 3 Z ?_;refine u0 QA ?_;refine dN 1 Z ?_;refine rt (hL _ ?_);refine cn h (fun h => ?_) fun h => ?_
        · refine Qi (hL10 _ ?_);refine sk fun L11 hL11 => ?_;refine Qt ?_;refine dk mixed (fun L hL => ?_);refine dN 3 Z ?_;obtain ⟨v12, hv12, h⟩ := h;refine u0 (QC hv12) ?_;refine dN 4 Z ?_;obtain ⟨v13, hv13, h⟩ := h;refine u0 (QC hv13) ?_;refine dN 1 Z ?_;refine u0 (AO (us := [.string v12.fa4, .int .i64 v12.fa8]) (vs := [.string v13.fa4, .int .i64 v13.fa8]) (c := (!((v12.fa4.toList == v13.fa4.toList) && ((v12.fa8 == v13.fa8) && true)))) Z Z (by kernel_rfl)) ?_;refine rd (hL _ ?_);refine cn h (fun h => ?_) fun h => ?_
          · refine tD Z ?_;obtain rfl := h;exact Qf (hQ _ _ (Zt Z Z))
          · refine Qi (hL11 _ ?_);refine tE Z (hL9 _ _ h QB.fit)
        · refine QT (hL8 _ _ h QB.fit)
    · refine tD Z ?_;refine Qt ?_;refine Zs (fun (s3 : Int) => (⟨[(2, .c (.ptr (2, 0) 0 0)), (3, .c (.ptr (3, 0) 0 0)), (5, .c (.p (.v (.int .i64 s3))))], [((2, 0), some (.box (List.map CV.p (Zf a0)))), ((3, 0), some (.box (List.map CV.p (Zf a1))))]⟩ : St)) h QB.fit (fun X3 L3 hL3 s3 h => ?_);refine sk fun L4 hL4 => ?_;refine tk fun L hL => ?_;refine dN 3 Z ?_;refine u0 QA ?_;refine dN 1 Z ?_;refine rt (hL _ ?_);refine cn h (fun h => ?_) fun h => ?_
      · refine Qi (hL4 _ ?_);refine sk fun L5 hL5 => ?_;refine Qt ?_;refine dk mixed (fun L hL => ?_);refine dN 3 Z ?_;obtain ⟨v6, hv6, h⟩ := h;refine u0 (QC hv6) ?_;refine dN 4 Z ?_;obtain ⟨v7, hv7, h⟩ := h;refine u0 (QC hv7) ?_;refine dN 2 Z ?_;refine rd (hL _ ?_);refine cn h (fun h => ?_) fun h => ?_
        · refine tD Z ?_;obtain rfl := h;exact Qf (hQ _ _ (Zt Z Z))
        · refine Qi (hL5 _ ?_);refine tE Z (hL3 _ _ h QB.fit)
      · refine QT (hL2 _ _ h QB.fit)
def XX (a0 : Qy) (a1 : Qy) (Q : Bool → Prop) : Prop :=
 ((((((a0.fc1.length : Int)) != ((a1.fc1.length : Int)))) = true → Q false) ∧ (((((a0.fc1.length : Int)) != ((a1.fc1.length : Int)))) = false → jn (fun (p2 : Unit) => ∃ (v8 : Bool), (((bif (bif (bif (a0.fc6 == a1.fc6) then (a0.fc8 == a1.fc8) else false) then (a0.fc3 == a1.fc3) else false) then (a0.fb5 == a1.fb5) else false)) = true → JZ a0.fj a1.fj v8) ∧ ∃ (v9 : Bool), (((bif (bif (bif (bif (a0.fc6 == a1.fc6) then (a0.fc8 == a1.fc8) else false) then (a0.fc3 == a1.fc3) else false) then (a0.fb5 == a1.fb5) else false) then v8 else false)) = true → JZ a0.fi a1.fi v9) ∧ Q (((bif (bif (bif (bif (bif (bif (bif (bif (bif (bif (bif (bif (a0.fc6 == a1.fc6) then (a0.fc8 == a1.fc8) else false) then (a0.fc3 == a1.fc3) else false) then (a0.fb5 == a1.fb5) else false) then v8 else false) then v9 else false) then (a0.fc7 == a1.fc7) else false) then (a0.fd0 == a1.fd0) else false) then (a0.fa1 == a1.fa1) else false) then (a0.fa2 == a1.fa2) else false) then ((a0.fAt.fb5 == a1.fAt.fb5) && ((a0.fAt.fd1 == a1.fAt.fd1) && true)) else false) then ((strOfNums a0.fb3).toList == (strOfNums a1.fb3).toList) else false) then (a0.fc4 == a1.fc4) else false)))) (fun (J2 : Unit → Prop) => lp (fun (X3 : Int → Prop) (s3 : Int) => (((decide (s3 < ((a0.fc1.length : Int)))) = true → ∃ v6, ix a0.fc1 s3 v6 ∧ ∃ v7, ix a1.fc1 s3 v7 ∧ ((((v6 != v7)) = true → Q false) ∧ (((v6 != v7)) = false → X3 ((IntKind.i64.wrap (s3 + 1)))))) ∧ ((decide (s3 < ((a0.fc1.length : Int)))) = false → J2 (())))) 0)))
def Jq (a0 : Qy) (a1 : Qy) (r : Bool) : Prop := XX a0 a1 fun x => r = x
theorem Bu {a0 : Qy} {a1 : Qy} {r : Bool} (h : Jq a0 a1 r) : Qq Tryz.prog 35 [.agg (V6 a0), .agg (V6 a1)] [.c (.p (.v (.bool r)))] [] := by
  refine Qn tb Tryz.func35 Z (by kernel_rfl) Z Z (Nat.le_of_ble_eq_true Z) Z ?_;intro E;unfold Jq XX at h;refine Z3 (fun Q hQ => ?_);refine tD Z ?_;refine sk fun L1 hL1 => ?_;refine tk fun L hL => ?_;refine dN 2 Z ?_;refine u0 QA ?_;refine dN 2 Z ?_;refine u0 QA ?_;refine dN 1 Z ?_;refine rt (hL _ ?_);refine cn h (fun h => ?_) fun h => ?_
  · refine tD Z ?_;obtain rfl := h;exact Qf (hQ _ _ (Zt Z Z))
  · refine Qi (hL1 _ ?_);refine Z5 (fun (p2 : Unit) => (⟨[(2, .c (.ptr (2, 0) 0 0)), (3, .c (.ptr (3, 0) 0 0))], [((2, 0), some (.box (List.map CV.p (V6 a0)))), ((3, 0), some (.box (List.map CV.p (V6 a1))))]⟩ : St)) h (fun p2 h => ?_) (fun J2 L2 hL2 h => ?_)
    · refine tk fun L hL => ?_;refine dN 6 Z ?_;refine Q2 Z Z Q6 (fun hg => Q7 Z Z Z Z Z Z Z Z Z) ?_;refine Q2 Z Z Q6 (fun hg => Q3 (Qb hg) Z Z Z Z Z) ?_;refine Q2 Z Z Q6 (fun hg => Q7 Z Z Z Z Z Z Z Z Z) ?_;refine Q2 Z Z Q6 (fun hg => Q3 (Qb hg) Z Z Z Z Z) ?_;refine Q2 Z Z Q6 (fun hg => Qz (c := (a0.fc8 == a1.fc8)) (Qb hg) (Qb hg) Z Z Z) ?_;refine u0 (Ql (v := .bool ((a0.fc8 == a1.fc8))) (w := .bool false) Z Z Q6 Z Qw) ?_;refine dN 1 Z ?_;refine Q2 Z Z Q6 (fun hg => Q7 Z Z Z Z Z Z Z Z Z) ?_;refine Q2 Z Z Q6 (fun hg => Q3 (Qb hg) Z Z Z Z Z) ?_;refine Q2 Z Z Q6 (fun hg => Q7 Z Z Z Z Z Z Z Z Z) ?_;refine Q2 Z Z Q6 (fun hg => Q3 (Qb hg) Z Z Z Z Z) ?_;refine Q2 Z Z Q6 (fun hg => Dx (Qb hg) (Qb hg) Z Z Z Z) ?_;refine u0 (Ql (v := .bool ((a0.fc3 == a1.fc3))) (w := .bool false) Z Z Q6 Z Qw) ?_;refine dN 1 Z ?_;refine Q2 Z Z Q6 (fun hg => Q7 Z Z Z Z Z Z Z Z Z) ?_;refine Q2 Z Z Q6 (fun hg => Q3 (Qb hg) Z Z Z Z Z) ?_;refine Q2 Z Z Q6 (fun hg => Q7 Z Z Z Z Z Z Z Z Z) ?_
      refine Q2 Z Z Q6 (fun hg => Q3 (Qb hg) Z Z Z Z Z) ?_;refine Q2 Z Z Q6 (fun hg => Qz (c := (a0.fb5 == a1.fb5)) (Qb hg) (Qb hg) Z Z Z) ?_;refine u0 (Ql (v := .bool ((a0.fb5 == a1.fb5))) (w := .bool false) Z Z Q6 Z Qw) ?_;refine dN 1 Z ?_;refine Q2 Z Z Q6 (fun hg => Q7 Z Z Z Z Z Z Z Z Z) ?_;refine Q2 Z Z Q6 (fun hg => QR (Qb hg) Z Z Z Z Z Z) ?_;refine Q2 Z Z Q6 (fun hg => Q7 Z Z Z Z Z Z Z Z Z) ?_;refine Q2 Z Z Q6 (fun hg => QR (Qb hg) Z Z Z Z Z Z) ?_;obtain ⟨v8, hv8, h⟩ := h;refine Q2 Z Z Q6 (fun hg => QN (UZ (hv8 hg)) Z Z (.cons (Zh hg (.agg (.pp (.pp (.pp (.pp (.pp (.pp (.pp (.pp (.pp (.pp (.pp (.pp (.pp (.pp (.pp (.pp (.pp (.pp (.pp (.pp (.pp (.pp (.pp (.pp (.pp (.pp (.pp (.pp (.pp .nil))))))))))))))))))))))))))))))) (.cons (Zh hg (.agg (.pp (.pp (.pp (.pp (.pp (.pp (.pp (.pp (.pp (.pp (.pp (.pp (.pp (.pp (.pp (.pp (.pp (.pp (.pp (.pp (.pp (.pp (.pp (.pp (.pp (.pp (.pp (.pp (.pp .nil))))))))))))))))))))))))))))))) .nil)) Z Z Z) ?_;refine u0 (Ql (v := .bool v8) (w := .bool false) Z Z Q6 Z Qw) ?_;refine dN 1 Z ?_
      refine Q2 Z Z Q6 (fun hg => Q7 Z Z Z Z Z Z Z Z Z) ?_;refine Q2 Z Z Q6 (fun hg => QR (Qb hg) Z Z Z Z Z Z) ?_;refine Q2 Z Z Q6 (fun hg => Q7 Z Z Z Z Z Z Z Z Z) ?_;refine Q2 Z Z Q6 (fun hg => QR (Qb hg) Z Z Z Z Z Z) ?_;obtain ⟨v9, hv9, h⟩ := h;refine Q2 Z Z Q6 (fun hg => QN (UZ (hv9 hg)) Z Z (.cons (Zh hg (.agg (.pp (.pp (.pp (.pp (.pp (.pp (.pp (.pp (.pp (.pp (.pp (.pp (.pp (.pp (.pp (.pp (.pp (.pp (.pp (.pp (.pp (.pp (.pp (.pp (.pp (.pp (.pp (.pp (.pp .nil))))))))))))))))))))))))))))))) (.cons (Zh hg (.agg (.pp (.pp (.pp (.pp (.pp (.pp (.pp (.pp (.pp (.pp (.pp (.pp (.pp (.pp (.pp (.pp (.pp (.pp (.pp (.pp (.pp (.pp (.pp (.pp (.pp (.pp (.pp (.pp (.pp .nil))))))))))))))))))))))))))))))) .nil)) Z Z Z) ?_;refine u0 (Ql (v := .bool v9) (w := .bool false) Z Z Q6 Z Qw) ?_;refine dN 1 Z ?_;refine Q2 Z Z Q6 (fun hg => Q7 Z Z Z Z Z Z Z Z Z) ?_;refine Q2 Z Z Q6 (fun hg => Q3 (Qb hg) Z Z Z Z Z) ?_;refine Q2 Z Z Q6 (fun hg => Q7 Z Z Z Z Z Z Z Z Z) ?_;refine Q2 Z Z Q6 (fun hg => Q3 (Qb hg) Z Z Z Z Z) ?_;refine Q2 Z Z Q6 (fun hg => Qz (c := (a0.fc7 == a1.fc7)) (Qb hg) (Qb hg) Z Z Z) ?_
      refine u0 (Ql (v := .bool ((a0.fc7 == a1.fc7))) (w := .bool false) Z Z Q6 Z Qw) ?_;refine dN 1 Z ?_;refine Q2 Z Z Q6 (fun hg => Q7 Z Z Z Z Z Z Z Z Z) ?_;refine Q2 Z Z Q6 (fun hg => Q3 (Qb hg) Z Z Z Z Z) ?_;refine Q2 Z Z Q6 (fun hg => Q7 Z Z Z Z Z Z Z Z Z) ?_;refine Q2 Z Z Q6 (fun hg => Q3 (Qb hg) Z Z Z Z Z) ?_;refine Q2 Z Z Q6 (fun hg => Qz (c := (a0.fd0 == a1.fd0)) (Qb hg) (Qb hg) Z Z Z) ?_;refine u0 (Ql (v := .bool ((a0.fd0 == a1.fd0))) (w := .bool false) Z Z Q6 Z Qw) ?_;refine dN 1 Z ?_;refine Q2 Z Z Q6 (fun hg => Q7 Z Z Z Z Z Z Z Z Z) ?_;refine Q2 Z Z Q6 (fun hg => Q3 (Qb hg) Z Z Z Z Z) ?_;refine Q2 Z Z Q6 (fun hg => Q7 Z Z Z Z Z Z Z Z Z) ?_;refine Q2 Z Z Q6 (fun hg => Q3 (Qb hg) Z Z Z Z Z) ?_;refine Q2 Z Z Q6 (fun hg => Qz (c := (a0.fa1 == a1.fa1)) (Qb hg) (Qb hg) Z Z Z) ?_;refine u0 (Ql (v := .bool ((a0.fa1 == a1.fa1))) (w := .bool false) Z Z Q6 Z Qw) ?_;refine dN 1 Z ?_;refine Q2 Z Z Q6 (fun hg => Q7 Z Z Z Z Z Z Z Z Z) ?_;refine Q2 Z Z Q6 (fun hg => Q3 (Qb hg) Z Z Z Z Z) ?_
      refine Q2 Z Z Q6 (fun hg => Q7 Z Z Z Z Z Z Z Z Z) ?_;refine Q2 Z Z Q6 (fun hg => Q3 (Qb hg) Z Z Z Z Z) ?_;refine Q2 Z Z Q6 (fun hg => Qz (c := (a0.fa2 == a1.fa2)) (Qb hg) (Qb hg) Z Z Z) ?_;refine u0 (Ql (v := .bool ((a0.fa2 == a1.fa2))) (w := .bool false) Z Z Q6 Z Qw) ?_;refine dN 1 Z ?_;refine Q2 Z Z Q6 (fun hg => Q7 Z Z Z Z Z Z Z Z Z) ?_;refine Q2 Z Z Q6 (fun hg => QR (Qb hg) Z Z Z Z Z Z) ?_;refine Q2 Z Z Q6 (fun hg => Q7 Z Z Z Z Z Z Z Z Z) ?_;refine Q2 Z Z Q6 (fun hg => QR (Qb hg) Z Z Z Z Z Z) ?_;refine Q2 Z Z Q6 (fun hg => Ld (us := [.int .i64 a0.fAt.fb5, .int .i64 a0.fAt.fd1]) (vs := [.int .i64 a1.fAt.fb5, .int .i64 a1.fAt.fd1]) (c := ((a0.fAt.fb5 == a1.fAt.fb5) && ((a0.fAt.fd1 == a1.fAt.fd1) && true))) (Qb hg) (Qb hg) (by kernel_rfl) Z Z Z Z Z Z) ?_;refine u0 (Ql (v := .bool (((a0.fAt.fb5 == a1.fAt.fb5) && ((a0.fAt.fd1 == a1.fAt.fd1) && true)))) (w := .bool false) Z Z Q6 Z Qw) ?_;refine dN 1 Z ?_;refine Q2 Z Z Q6 (fun hg => Q7 Z Z Z Z Z Z Z Z Z) ?_;refine Q2 Z Z Q6 (fun hg => Q3 (Qb hg) Z Z Z Z Z) ?_
      refine Q2 Z Z Q6 (fun hg => W4 (Qb hg) Z Z Z Z Z Z Z) ?_;refine Q2 Z Z Q6 (fun hg => Q7 Z Z Z Z Z Z Z Z Z) ?_;refine Q2 Z Z Q6 (fun hg => Q3 (Qb hg) Z Z Z Z Z) ?_;refine Q2 Z Z Q6 (fun hg => W4 (Qb hg) Z Z Z Z Z Z Z) ?_;refine Q2 Z Z Q6 (fun hg => Vy (c := ((strOfNums a0.fb3).toList == (strOfNums a1.fb3).toList)) (Qb hg) (Qb hg) Z Z Z) ?_;refine u0 (Ql (v := .bool (((strOfNums a0.fb3).toList == (strOfNums a1.fb3).toList))) (w := .bool false) Z Z Q6 Z Qw) ?_;refine dN 1 Z ?_;refine Q2 Z Z Q6 (fun hg => Q7 Z Z Z Z Z Z Z Z Z) ?_;refine Q2 Z Z Q6 (fun hg => Q3 (Qb hg) Z Z Z Z Z) ?_;refine Q2 Z Z Q6 (fun hg => Q7 Z Z Z Z Z Z Z Z Z) ?_;refine Q2 Z Z Q6 (fun hg => Q3 (Qb hg) Z Z Z Z Z) ?_;refine Q2 Z Z Q6 (fun hg => Dx (Qb hg) (Qb hg) Z Z Z Z) ?_;refine u0 (Ql (v := .bool ((a0.fc4 == a1.fc4))) (w := .bool false) Z Z Q6 Z Qw) ?_;refine dN 1 Z ?_;refine rt (hL _ ?_);refine QS (st' := ⟨[(4, .c (.p (.v (.bool ((bif (bif (bif (bif (bif (bif (bif (bif (bif (bif (bif (bif (a0.fc6 == a1.fc6) then (a0.fc8 == a1.fc8) else false) then (a0.fc3 == a1.fc3) else false) then (a0.fb5 == a1.fb5) else false) then v8 else false) then v9 else false) then (a0.fc7 == a1.fc7) else false) then (a0.fd0 == a1.fd0) else false) then (a0.fa1 == a1.fa1) else false) then (a0.fa2 == a1.fa2) else false) then ((a0.fAt.fb5 == a1.fAt.fb5) && ((a0.fAt.fd1 == a1.fAt.fd1) && true)) else false) then ((strOfNums a0.fb3).toList == (strOfNums a1.fb3).toList) else false) then (a0.fc4 == a1.fc4) else false))))))], []⟩) QB.fit ?_
      obtain rfl := h;exact Qf (hQ _ _ (Zt Z Z))
    · refine tD Z ?_;refine Qt ?_;refine Zs (fun (s3 : Int) => (⟨[(2, .c (.ptr (2, 0) 0 0)), (3, .c (.ptr (3, 0) 0 0)), (5, .c (.p (.v (.int .i64 s3))))], [((2, 0), some (.box (List.map CV.p (V6 a0)))), ((3, 0), some (.box (List.map CV.p (V6 a1))))]⟩ : St)) h QB.fit (fun X3 L3 hL3 s3 h => ?_);refine sk fun L4 hL4 => ?_;refine tk fun L hL => ?_;refine dN 3 Z ?_;refine u0 QA ?_;refine dN 1 Z ?_;refine rt (hL _ ?_);refine cn h (fun h => ?_) fun h => ?_
      · refine Qi (hL4 _ ?_);refine sk fun L5 hL5 => ?_;refine Qt ?_;refine dk mixed (fun L hL => ?_);refine dN 3 Z ?_;obtain ⟨v6, hv6, h⟩ := h;refine u0 (QC hv6) ?_;refine dN 4 Z ?_;obtain ⟨v7, hv7, h⟩ := h;refine u0 (QC hv7) ?_;refine dN 2 Z ?_;refine rd (hL _ ?_);refine cn h (fun h => ?_) fun h => ?_
        · refine tD Z ?_;obtain rfl := h;exact Qf (hQ _ _ (Zt Z Z))
        · refine Qi (hL5 _ ?_);refine tE Z (hL3 _ _ h QB.fit)
      · refine QT (hL2 _ _ h QB.fit)
def XB (a0 : (List Q5)) (a1 : (List Q5)) (Q : Bool → Prop) : Prop :=
 ((((((a0.length : Int)) != ((a1.length : Int)))) = true → Q false) ∧ (((((a0.length : Int)) != ((a1.length : Int)))) = false → jn (fun (p2 : Unit) => Q true) (fun (J2 : Unit → Prop) => lp (fun (X3 : Int → Prop) (s3 : Int) => (((decide (s3 < ((a0.length : Int)))) = true → ∃ v6, ix a0 s3 v6 ∧ ∃ v7, ix a1 s3 v7 ∧ ∃ (v8 : Q5), ((!((!(v6.fb7 == v7.fb7)))) = true → ix a0 s3 v8) ∧ ∃ (v9 : Q5), ((!((!(v6.fb7 == v7.fb7)))) = true → ix a1 s3 v9) ∧ ∃ (v10 : Q5), ((!((bif (!(v6.fb7 == v7.fb7)) then true else (v8.fa3 != v9.fa3)))) = true → ix a0 s3 v10) ∧ ∃ (v11 : Q5), ((!((bif (!(v6.fb7 == v7.fb7)) then true else (v8.fa3 != v9.fa3)))) = true → ix a1 s3 v11) ∧ ∃ (v12 : Bool), ((!((bif (!(v6.fb7 == v7.fb7)) then true else (v8.fa3 != v9.fa3)))) = true → YV v10.fOp v11.fOp v12) ∧ ∃ (v13 : Q5), ((!((bif (bif (!(v6.fb7 == v7.fb7)) then true else (v8.fa3 != v9.fa3)) then true else !(v12)))) = true → ix a0 s3 v13) ∧ ∃ (v14 : Q5), ((!((bif (bif (!(v6.fb7 == v7.fb7)) then true else (v8.fa3 != v9.fa3)) then true else !(v12)))) = true → ix a1 s3 v14) ∧ ∃ (v15 : Bool), ((!((bif (bif (!(v6.fb7 == v7.fb7)) then true else (v8.fa3 != v9.fa3)) then true else !(v12)))) = true → Jq v13.fm v14.fm v15) ∧ ∃ (v16 : Q5), ((!((bif (bif (bif (!(v6.fb7 == v7.fb7)) then true else (v8.fa3 != v9.fa3)) then true else !(v12)) then true else !(v15)))) = true → ix a0 s3 v16) ∧ ∃ (v17 : Q5), ((!((bif (bif (bif (!(v6.fb7 == v7.fb7)) then true else (v8.fa3 != v9.fa3)) then true else !(v12)) then true else !(v15)))) = true → ix a1 s3 v17) ∧ ∃ (v18 : Bool), ((!((bif (bif (bif (!(v6.fb7 == v7.fb7)) then true else (v8.fa3 != v9.fa3)) then true else !(v12)) then true else !(v15)))) = true → KJ v16.f7 v17.f7 v18) ∧ ∃ (v19 : Q5), ((!((bif (bif (bif (bif (!(v6.fb7 == v7.fb7)) then true else (v8.fa3 != v9.fa3)) then true else !(v12)) then true else !(v15)) then true else !(v18)))) = true → ix a0 s3 v19) ∧ ∃ (v20 : Q5), ((!((bif (bif (bif (bif (!(v6.fb7 == v7.fb7)) then true else (v8.fa3 != v9.fa3)) then true else !(v12)) then true else !(v15)) then true else !(v18)))) = true → ix a1 s3 v20) ∧ ∃ (v21 : Bool), ((!((bif (bif (bif (bif (!(v6.fb7 == v7.fb7)) then true else (v8.fa3 != v9.fa3)) then true else !(v12)) then true else !(v15)) then true else !(v18)))) = true → Jp v19.fa5 v20.fa5 v21) ∧ ((((bif (bif (bif (bif (bif (!(v6.fb7 == v7.fb7)) then true else (v8.fa3 != v9.fa3)) then true else !(v12)) then true else !(v15)) then true else !(v18)) then true else !(v21))) = true → Q false) ∧ (((bif (bif (bif (bif (bif (!(v6.fb7 == v7.fb7)) then true else (v8.fa3 != v9.fa3)) then true else !(v12)) then true else !(v15)) then true else !(v18)) then true else !(v21))) = false → X3 ((IntKind.i64.wrap (s3 + 1)))))) ∧ ((decide (s3 < ((a0.length : Int)))) = false → J2 (())))) 0)))
def Jb (a0 : (List Q5)) (a1 : (List Q5)) (r : Bool) : Prop := XB a0 a1 fun x => r = x
theorem B5 {a0 : (List Q5)} {a1 : (List Q5)} {r : Bool} (h : Jb a0 a1 r) : Qq Tryz.prog 11 [.c (.l 97 (List.map Qv a0)), .c (.l 97 (List.map Qv a1))] [.c (.p (.v (.bool r)))] [] := by
  refine Qn tb Tryz.func11 Z (by kernel_rfl) Z Z (Nat.le_of_ble_eq_true Z) Z ?_;intro E;unfold Jb XB at h;refine Z3 (fun Q hQ => ?_);refine tD Z ?_;refine sk fun L1 hL1 => ?_;refine tk fun L hL => ?_;refine dN 1 Z ?_;refine u0 QA ?_;refine dN 1 Z ?_;refine u0 QA ?_;refine dN 1 Z ?_;refine rt (hL _ ?_);refine cn h (fun h => ?_) fun h => ?_
  · refine tD Z ?_;obtain rfl := h;exact Qf (hQ _ _ (Zt Z Z))
  · refine Qi (hL1 _ ?_);refine Z5 (fun (p2 : Unit) => (⟨[], []⟩ : St)) h (fun p2 h => ?_) (fun J2 L2 hL2 h => ?_)
    · refine tD Z ?_;obtain rfl := h;exact Qf (hQ _ _ (Zt Z Z))
    · refine tD Z ?_;refine Qt ?_;refine Zs (fun (s3 : Int) => (⟨[(0, .c (.p (.l 97 (List.map Qv a0)))), (1, .c (.p (.l 97 (List.map Qv a1)))), (5, .c (.p (.v (.int .i64 s3))))], []⟩ : St)) h QB.fit (fun X3 L3 hL3 s3 h => ?_);refine sk fun L4 hL4 => ?_;refine tk fun L hL => ?_;refine dN 2 Z ?_;refine u0 QA ?_;refine dN 1 Z ?_;refine rt (hL _ ?_);refine cn h (fun h => ?_) fun h => ?_
      · refine Qi (hL4 _ ?_);refine sk fun L5 hL5 => ?_;refine Qt ?_;refine dk mixed (fun L hL => ?_);refine dN 2 Z ?_;obtain ⟨v6, hv6, h⟩ := h;refine u0 (QC hv6) ?_;refine dN 4 Z ?_;obtain ⟨v7, hv7, h⟩ := h;refine u0 (QC hv7) ?_;refine dN 4 Z ?_;refine Q2 Z Z Q4 (fun hg => Qd Z Z) ?_;refine Q2 Z Z Q4 (fun hg => Qd Z Z) ?_;obtain ⟨v8, hv8, h⟩ := h;refine Q2 Z Z Q4 (fun hg => QC (hv8 hg) (Qb hg) (Qb hg) Z Z Z Z Z Z) ?_;refine Q2 Z Z Q4 (fun hg => ZO (Qb hg) Z Z Z Z Z Z Z) ?_;refine Q2 Z Z Q4 (fun hg => Zm (Qb hg) Z Z Z Z) ?_;refine Q2 Z Z Q4 (fun hg => Qd Z Z) ?_;refine Q2 Z Z Q4 (fun hg => Qd Z Z) ?_;obtain ⟨v9, hv9, h⟩ := h;refine Q2 Z Z Q4 (fun hg => QC (hv9 hg) (Qb hg) (Qb hg) Z Z Z Z Z Z) ?_;refine Q2 Z Z Q4 (fun hg => ZO (Qb hg) Z Z Z Z Z Z Z) ?_;refine Q2 Z Z Q4 (fun hg => Zm (Qb hg) Z Z Z Z) ?_;refine Q2 Z Z Q4 (fun hg => Qz (c := (v8.fa3 != v9.fa3)) (Qb hg) (Qb hg) Z Z Z) ?_;refine u0 (Qm (v := .bool true) (w := .bool ((v8.fa3 != v9.fa3))) Z Z Q4 Z Qw) ?_;refine dN 1 Z ?_
        refine Q2 Z Z Q4 (fun hg => Qd Z Z) ?_;refine Q2 Z Z Q4 (fun hg => Qd Z Z) ?_;obtain ⟨v10, hv10, h⟩ := h;refine Q2 Z Z Q4 (fun hg => QC (hv10 hg) (Qb hg) (Qb hg) Z Z Z Z Z Z) ?_;refine Q2 Z Z Q4 (fun hg => ZO (Qb hg) Z Z Z Z Z Z Z) ?_;refine Q2 Z Z Q4 (fun hg => Vz (Qb hg) Z Z Z Z Z Z) ?_;refine Q2 Z Z Q4 (fun hg => Qd Z Z) ?_;refine Q2 Z Z Q4 (fun hg => Qd Z Z) ?_;obtain ⟨v11, hv11, h⟩ := h;refine Q2 Z Z Q4 (fun hg => QC (hv11 hg) (Qb hg) (Qb hg) Z Z Z Z Z Z) ?_;refine Q2 Z Z Q4 (fun hg => ZO (Qb hg) Z Z Z Z Z Z Z) ?_;refine Q2 Z Z Q4 (fun hg => Vz (Qb hg) Z Z Z Z Z Z) ?_;obtain ⟨v12, hv12, h⟩ := h;refine Q2 Z Z Q4 (fun hg => QN (Hi (hv12 hg)) Z Z (.cons (Zh hg (.agg (.pp (.pp (.pp (.pp (.pp (.pp (.pp (.pp (.pp (.pp (.pp (.pp (.pp (.pp (.pp (.pp (.pp (.pp (.pp (.pp (.pp (.pp .nil)))))))))))))))))))))))) (.cons (Zh hg (.agg (.pp (.pp (.pp (.pp (.pp (.pp (.pp (.pp (.pp (.pp (.pp (.pp (.pp (.pp (.pp (.pp (.pp (.pp (.pp (.pp (.pp (.pp .nil)))))))))))))))))))))))) .nil)) Z Z Z) ?_;refine Q2 Z Z Q4 (fun hg => Z4 (Qb hg) Z Z) ?_
        refine u0 (Qm (v := .bool true) (w := .bool (!(v12))) Z Z Q4 Z Qw) ?_;refine dN 1 Z ?_;refine Q2 Z Z Q4 (fun hg => Qd Z Z) ?_;refine Q2 Z Z Q4 (fun hg => Qd Z Z) ?_;obtain ⟨v13, hv13, h⟩ := h;refine Q2 Z Z Q4 (fun hg => QC (hv13 hg) (Qb hg) (Qb hg) Z Z Z Z Z Z) ?_;refine Q2 Z Z Q4 (fun hg => ZO (Qb hg) Z Z Z Z Z Z Z) ?_;refine Q2 Z Z Q4 (fun hg => Vz (Qb hg) Z Z Z Z Z Z) ?_;refine Q2 Z Z Q4 (fun hg => Qd Z Z) ?_;refine Q2 Z Z Q4 (fun hg => Qd Z Z) ?_;obtain ⟨v14, hv14, h⟩ := h;refine Q2 Z Z Q4 (fun hg => QC (hv14 hg) (Qb hg) (Qb hg) Z Z Z Z Z Z) ?_;refine Q2 Z Z Q4 (fun hg => ZO (Qb hg) Z Z Z Z Z Z Z) ?_;refine Q2 Z Z Q4 (fun hg => Vz (Qb hg) Z Z Z Z Z Z) ?_;obtain ⟨v15, hv15, h⟩ := h;refine Q2 Z Z Q4 (fun hg => QN (Bu (hv15 hg)) Z Z (.cons (Zh hg (.agg (.pp (.pp (.pp (.pp (.pp (.pp (.pp (.pp (.pp (.pp (.pp (.pp (.pp (.pp (.pp (.pp (.pp (.pp (.pp (.pp (.pp (.pp (.pp (.pp (.pp (.pp (.pp (.pp (.pp (.pp (.pp (.pp (.pp (.pp (.pp (.pp (.pp (.pp (.pp (.pp (.pp (.pp (.pp (.pp (.pp (.pp (.pp (.pp (.pp (.pp (.pp (.pp (.pp (.pp (.pp (.pp (.pp (.pp (.pp (.pp (.pp (.pp (.pp (.pp (.pp (.pp (.pp (.pp (.pp (.pp (.pp .nil))))))))))))))))))))))))))))))))))))))))))))))))))))))))))))))))))))))))) (.cons (Zh hg (.agg (.pp (.pp (.pp (.pp (.pp (.pp (.pp (.pp (.pp (.pp (.pp (.pp (.pp (.pp (.pp (.pp (.pp (.pp (.pp (.pp (.pp (.pp (.pp (.pp (.pp (.pp (.pp (.pp (.pp (.pp (.pp (.pp (.pp (.pp (.pp (.pp (.pp (.pp (.pp (.pp (.pp (.pp (.pp (.pp (.pp (.pp (.pp (.pp (.pp (.pp (.pp (.pp (.pp (.pp (.pp (.pp (.pp (.pp (.pp (.pp (.pp (.pp (.pp (.pp (.pp (.pp (.pp (.pp (.pp (.pp (.pp .nil))))))))))))))))))))))))))))))))))))))))))))))))))))))))))))))))))))))))) .nil)) Z Z Z) ?_
        refine Q2 Z Z Q4 (fun hg => Z4 (Qb hg) Z Z) ?_;refine u0 (Qm (v := .bool true) (w := .bool (!(v15))) Z Z Q4 Z Qw) ?_;refine dN 1 Z ?_;refine Q2 Z Z Q4 (fun hg => Qd Z Z) ?_;refine Q2 Z Z Q4 (fun hg => Qd Z Z) ?_;obtain ⟨v16, hv16, h⟩ := h;refine Q2 Z Z Q4 (fun hg => QC (hv16 hg) (Qb hg) (Qb hg) Z Z Z Z Z Z) ?_;refine Q2 Z Z Q4 (fun hg => ZO (Qb hg) Z Z Z Z Z Z Z) ?_;refine Q2 Z Z Q4 (fun hg => Zm (Qb hg) Z Z Z Z) ?_;refine Q2 Z Z Q4 (fun hg => Qd Z Z) ?_;refine Q2 Z Z Q4 (fun hg => Qd Z Z) ?_;obtain ⟨v17, hv17, h⟩ := h;refine Q2 Z Z Q4 (fun hg => QC (hv17 hg) (Qb hg) (Qb hg) Z Z Z Z Z Z) ?_;refine Q2 Z Z Q4 (fun hg => ZO (Qb hg) Z Z Z Z Z Z Z) ?_;refine Q2 Z Z Q4 (fun hg => Zm (Qb hg) Z Z Z Z) ?_;obtain ⟨v18, hv18, h⟩ := h;refine Q2 Z Z Q4 (fun hg => QN (AA (hv18 hg)) Z Z (.cons (Zh hg (.c (.p _))) (.cons (Zh hg (.c (.p _))) .nil)) Z Z Z) ?_;refine Q2 Z Z Q4 (fun hg => Z4 (Qb hg) Z Z) ?_;refine u0 (Qm (v := .bool true) (w := .bool (!(v18))) Z Z Q4 Z Qw) ?_
        refine dN 1 Z ?_;refine Q2 Z Z Q4 (fun hg => Qd Z Z) ?_;refine Q2 Z Z Q4 (fun hg => Qd Z Z) ?_;obtain ⟨v19, hv19, h⟩ := h;refine Q2 Z Z Q4 (fun hg => QC (hv19 hg) (Qb hg) (Qb hg) Z Z Z Z Z Z) ?_;refine Q2 Z Z Q4 (fun hg => ZO (Qb hg) Z Z Z Z Z Z Z) ?_;refine Q2 Z Z Q4 (fun hg => Zm (Qb hg) Z Z Z Z) ?_;refine Q2 Z Z Q4 (fun hg => Qd Z Z) ?_;refine Q2 Z Z Q4 (fun hg => Qd Z Z) ?_;obtain ⟨v20, hv20, h⟩ := h;refine Q2 Z Z Q4 (fun hg => QC (hv20 hg) (Qb hg) (Qb hg) Z Z Z Z Z Z) ?_;refine Q2 Z Z Q4 (fun hg => ZO (Qb hg) Z Z Z Z Z Z Z) ?_;refine Q2 Z Z Q4 (fun hg => Zm (Qb hg) Z Z Z Z) ?_;obtain ⟨v21, hv21, h⟩ := h;refine Q2 Z Z Q4 (fun hg => QN (Bt (hv21 hg)) Z Z (.cons (Zh hg (.c (.p _))) (.cons (Zh hg (.c (.p _))) .nil)) Z Z Z) ?_;refine Q2 Z Z Q4 (fun hg => Z4 (Qb hg) Z Z) ?_;refine u0 (Qm (v := .bool true) (w := .bool (!(v21))) Z Z Q4 Z Qw) ?_;refine rd (hL _ ?_);refine cn h (fun h => ?_) fun h => ?_
        · refine tD Z ?_;refine QS (st' := ⟨[(4, .c (.p (.v (.bool false))))], []⟩) QB.fit ?_;obtain rfl := h;exact Qf (hQ _ _ (Zt Z Z))
        · refine Qi (hL5 _ ?_);refine QS (st' := ⟨[(0, .c (.p (.l 97 (List.map Qv a0)))), (1, .c (.p (.l 97 (List.map Qv a1)))), (5, .c (.p (.v (.int .i64 s3))))], []⟩) QB.fit ?_;refine tE Z (hL3 _ _ h QB.fit)
      · refine QT (hL2 _ _ h QB.fit)
def U5 (a0 : (List Q5)) (a1 : Int) (Q : ((List Q5) × Int) → Prop) : Prop :=
 ((((bif decide (a1 < 0) then true else decide (a1 ≥ ((a0.length : Int))))) = true → Q (([] : (List Q5)), 5)) ∧ (((bif decide (a1 < 0) then true else decide (a1 ≥ ((a0.length : Int))))) = false → ∃ v3, ix a0 a1 v3 ∧ (((!(v3.fb7)) = true → Q (([] : (List Q5)), 13)) ∧ ((!(v3.fb7)) = false → ∃ v4, Jh a0 v4 ∧ ∃ v5, ix v4 a1 v5 ∧ Q ((List.set (List.set (List.set (List.set v4 (Int.toNat a1) ((Q5.mk false v5.fOp v5.fm v5.fa3 v5.f7 v5.fa5))) (Int.toNat a1) ((Q5.mk false (Qo.mk 0 ByteArray.empty ByteArray.empty (([] : (List ByteArray))) (Q9.mk 0 0 0 0) (([] : (List Qh))) (([] : (List Int))) 0 0 0 0 0 0 (Qu.mk 0 ByteArray.empty 0 0 0) (([] : (List Int)))) v5.fm v5.fa3 v5.f7 v5.fa5))) (Int.toNat a1) ((Q5.mk false (Qo.mk 0 ByteArray.empty ByteArray.empty (([] : (List ByteArray))) (Q9.mk 0 0 0 0) (([] : (List Qh))) (([] : (List Int))) 0 0 0 0 0 0 (Qu.mk 0 ByteArray.empty 0 0 0) (([] : (List Int)))) (Qy.mk 0 0 false (([] : (List Int))) 0 (Qc.mk (Q9.mk 0 0 0 0) (Qp.mk 0 0 false) (Qa.mk 0 0 0 (([] : (List Int))) false) (Qj.mk 0 0 (([] : (List Int)))) (Qs.mk 0 0 (([] : (List Q1))) false) (Qe.mk 0 0 0 (([] : (List Q1))) false) (Qk.mk 0 0 0 (([] : (List (List ByteArray)))) false)) (Qc.mk (Q9.mk 0 0 0 0) (Qp.mk 0 0 false) (Qa.mk 0 0 0 (([] : (List Int))) false) (Qj.mk 0 0 (([] : (List Int)))) (Qs.mk 0 0 (([] : (List Q1))) false) (Qe.mk 0 0 0 (([] : (List Q1))) false) (Qk.mk 0 0 0 (([] : (List (List ByteArray)))) false)) 0 0 0 0 (Z8.mk 0 0) (([] : (List Int))) false) v5.fa3 v5.f7 v5.fa5))) (Int.toNat a1) ((Q5.mk false (Qo.mk 0 ByteArray.empty ByteArray.empty (([] : (List ByteArray))) (Q9.mk 0 0 0 0) (([] : (List Qh))) (([] : (List Int))) 0 0 0 0 0 0 (Qu.mk 0 ByteArray.empty 0 0 0) (([] : (List Int)))) (Qy.mk 0 0 false (([] : (List Int))) 0 (Qc.mk (Q9.mk 0 0 0 0) (Qp.mk 0 0 false) (Qa.mk 0 0 0 (([] : (List Int))) false) (Qj.mk 0 0 (([] : (List Int)))) (Qs.mk 0 0 (([] : (List Q1))) false) (Qe.mk 0 0 0 (([] : (List Q1))) false) (Qk.mk 0 0 0 (([] : (List (List ByteArray)))) false)) (Qc.mk (Q9.mk 0 0 0 0) (Qp.mk 0 0 false) (Qa.mk 0 0 0 (([] : (List Int))) false) (Qj.mk 0 0 (([] : (List Int)))) (Qs.mk 0 0 (([] : (List Q1))) false) (Qe.mk 0 0 0 (([] : (List Q1))) false) (Qk.mk 0 0 0 (([] : (List (List ByteArray)))) false)) 0 0 0 0 (Z8.mk 0 0) (([] : (List Int))) false) 0 v5.f7 v5.fa5))), 0)))))
def XC (a0 : (List Q5)) (a1 : Int) (r : (List Q5) × Int) : Prop := U5 a0 a1 fun x => r = x
theorem Fs {a0 : (List Q5)} {a1 : Int} {r : (List Q5) × Int} (h : XC a0 a1 r) : Qq Tryz.prog 13 [.c (.l 97 (List.map Qv a0)), .c (.v (.int .i64 a1))] [.c (.own 97 (List.map Qv r.1)), .c (.p (.v (.int .i64 r.2)))] [] := by
  refine Qn tb Tryz.func13 Z (by kernel_rfl) Z Z (Nat.le_of_ble_eq_true Z) Z ?_;intro E;unfold XC U5 at h;refine Z3 (fun Q hQ => ?_);refine tD Z ?_;refine sk fun L1 hL1 => ?_;refine tk fun L hL => ?_;refine dN 3 Z ?_;refine Q2 Z Z Q4 (fun hg => Qd Z Z) ?_;refine Q2 Z Z Q4 (fun hg => Qd Z Z) ?_;refine Q2 Z Z Q4 (fun hg => QA (Qb hg) Z Z Z) ?_;refine Q2 Z Z Q4 (fun hg => Qz (c := decide (a1 ≥ ((a0.length : Int)))) (Qb hg) (Qb hg) Z Z Z) ?_;refine u0 (Qm (v := .bool true) (w := .bool (decide (a1 ≥ ((a0.length : Int))))) Z Z Q4 Z Qw) ?_;refine rt (hL _ ?_);refine cn h (fun h => ?_) fun h => ?_
  · refine tD Z ?_;obtain rfl := h;exact Qf (hQ _ _ (I9 Z Z Z Z))
  · refine Qi (hL1 _ ?_);refine QS (st' := ⟨[(0, .c (.p (.l 97 (List.map Qv a0)))), (1, .c (.p (.v (.int .i64 a1))))], []⟩) QB.fit ?_;refine sk fun L2 hL2 => ?_;refine tk fun L hL => ?_;refine dN 2 Z ?_;obtain ⟨v3, hv3, h⟩ := h;refine u0 (QC hv3) ?_;refine dN 3 Z ?_;refine rt (hL _ ?_);refine cn h (fun h => ?_) fun h => ?_
    · refine tD Z ?_;obtain rfl := h;exact Qf (hQ _ _ (I9 Z Z Z Z))
    · refine Qi (hL2 _ ?_);refine tk fun L hL => ?_;refine dN 1 Z ?_;obtain ⟨v4, hv4, h⟩ := h;refine ul (Zw (Uk hv4)) ?_;refine dN 1 Z ?_;refine rt (hL _ ?_);refine tk fun L hL => ?_;refine dN 2 Z ?_;obtain ⟨v5, hv5, h⟩ := h;refine u0 (QU hv5) ?_;refine dN 1 Z ?_;refine rt (hL _ ?_);refine tk fun L hL => ?_;refine dN 8 Z ?_;refine un (Zg (x1 := (Q5.mk false v5.fOp v5.fm v5.fa3 v5.f7 v5.fa5)) hv5.2) ?_;refine dN 2 Z ?_;refine un (Kc (x1 := (Q5.mk false (Qo.mk 0 ByteArray.empty ByteArray.empty (([] : (List ByteArray))) (Q9.mk 0 0 0 0) (([] : (List Qh))) (([] : (List Int))) 0 0 0 0 0 0 (Qu.mk 0 ByteArray.empty 0 0 0) (([] : (List Int)))) v5.fm v5.fa3 v5.f7 v5.fa5)) (ZE hv5.2) Z Z Z Z (.c (.c (.c (.cons (.nil _) (.c (.c (.c (.c (.cons (.nil _) (.cons (.nil _) (.c (.c (.c (.c (.c (.c (.c (.c (.c (.c (.c (.cons (.nil _) .nil))))))))))))))))))))))) ?_;refine dN 2 Z ?_;refine un (Kc (x1 := (Q5.mk false (Qo.mk 0 ByteArray.empty ByteArray.empty (([] : (List ByteArray))) (Q9.mk 0 0 0 0) (([] : (List Qh))) (([] : (List Int))) 0 0 0 0 0 0 (Qu.mk 0 ByteArray.empty 0 0 0) (([] : (List Int)))) (Qy.mk 0 0 false (([] : (List Int))) 0 (Qc.mk (Q9.mk 0 0 0 0) (Qp.mk 0 0 false) (Qa.mk 0 0 0 (([] : (List Int))) false) (Qj.mk 0 0 (([] : (List Int)))) (Qs.mk 0 0 (([] : (List Q1))) false) (Qe.mk 0 0 0 (([] : (List Q1))) false) (Qk.mk 0 0 0 (([] : (List (List ByteArray)))) false)) (Qc.mk (Q9.mk 0 0 0 0) (Qp.mk 0 0 false) (Qa.mk 0 0 0 (([] : (List Int))) false) (Qj.mk 0 0 (([] : (List Int)))) (Qs.mk 0 0 (([] : (List Q1))) false) (Qe.mk 0 0 0 (([] : (List Q1))) false) (Qk.mk 0 0 0 (([] : (List (List ByteArray)))) false)) 0 0 0 0 (Z8.mk 0 0) (([] : (List Int))) false) v5.fa3 v5.f7 v5.fa5)) (ZE (ZE hv5.2)) Z Z Z Z (.c (.c (.c (.cons (.nil _) (.c (.c (.c (.c (.c (.c (.c (.c (.c (.c (.c (.cons (.nil _) (.c (.c (.c (.cons (.nil _) (.c (.c (.cons (.nil _) (.c (.c (.c (.c (.cons (.nil _) (.c (.c (.c (.c (.cons (.nil _) (.c (.c (.c (.c (.c (.c (.c (.c (.c (.c (.c (.cons (.nil _) (.c (.c (.c (.cons (.nil _) (.c (.c (.cons (.nil _) (.c (.c (.c (.c (.cons (.nil _) (.c (.c (.c (.c (.cons (.nil _) (.c (.c (.c (.c (.c (.c (.c (.cons (.nil _) (.c .nil)))))))))))))))))))))))))))))))))))))))))))))))))))))))))))))))))))))))) ?_
      refine dN 2 Z ?_;refine un (Zg (x1 := (Q5.mk false (Qo.mk 0 ByteArray.empty ByteArray.empty (([] : (List ByteArray))) (Q9.mk 0 0 0 0) (([] : (List Qh))) (([] : (List Int))) 0 0 0 0 0 0 (Qu.mk 0 ByteArray.empty 0 0 0) (([] : (List Int)))) (Qy.mk 0 0 false (([] : (List Int))) 0 (Qc.mk (Q9.mk 0 0 0 0) (Qp.mk 0 0 false) (Qa.mk 0 0 0 (([] : (List Int))) false) (Qj.mk 0 0 (([] : (List Int)))) (Qs.mk 0 0 (([] : (List Q1))) false) (Qe.mk 0 0 0 (([] : (List Q1))) false) (Qk.mk 0 0 0 (([] : (List (List ByteArray)))) false)) (Qc.mk (Q9.mk 0 0 0 0) (Qp.mk 0 0 false) (Qa.mk 0 0 0 (([] : (List Int))) false) (Qj.mk 0 0 (([] : (List Int)))) (Qs.mk 0 0 (([] : (List Q1))) false) (Qe.mk 0 0 0 (([] : (List Q1))) false) (Qk.mk 0 0 0 (([] : (List (List ByteArray)))) false)) 0 0 0 0 (Z8.mk 0 0) (([] : (List Int))) false) 0 v5.f7 v5.fa5)) (ZE (ZE (ZE hv5.2)))) ?_;refine rt (hL _ ?_);refine tD Z ?_;obtain rfl := h
      exact Qf (hQ _ _ ⟨.inr Z, _, _, _, (.cons (.s Z) (.cons (.p Z) .nil)), (.cons (.c (.own Z (by simp))) (.cons (.c (.p _)) .nil)), Z, Z⟩)
def Ym (a0 : (List Q5)) (Q : ((List Int)) → Prop) : Prop :=
 jn (fun (p1 : (List Int)) => Q p1) (fun (J1 : (List Int) → Prop) => lp (fun (X2 : (List Int) × Int → Prop) (s2 : (List Int) × Int) => (((decide (s2.2 < ((a0.length : Int)))) = true → jn (fun (p4 : (List Int)) => X2 (p4, (IntKind.i64.wrap (s2.2 + 1)))) (fun (J4 : (List Int) → Prop) => ∃ v5, ix a0 s2.2 v5 ∧ ((v5.fb7 = true → ((s2.1.length + ([s2.2]).length) * 8 ≤ 140737488355328) ∧ J4 ((s2.1 ++ ([s2.2])))) ∧ (v5.fb7 = false → J4 s2.1)))) ∧ ((decide (s2.2 < ((a0.length : Int)))) = false → J1 s2.1))) (([] : (List Int)), 0))
def JN (a0 : (List Q5)) (r : (List Int)) : Prop := Ym a0 fun x => r = x
theorem Co {a0 : (List Q5)} {r : (List Int)} (h : JN a0 r) : Qq Tryz.prog 15 [.c (.l 97 (List.map Qv a0))] [.c (.own 1 (List.map (eI .i64) r))] [] := by
  refine Qn tb Tryz.func15 Z (by kernel_rfl) Z Z (Nat.le_of_ble_eq_true Z) Z ?_;intro E;unfold JN Ym at h;refine Z3 (fun Q hQ => ?_);refine tD Z ?_;refine tD Z ?_;refine Z5 (fun (p1 : (List Int)) => (⟨[(3, .c (.sl (3, 1000) 0 (List.map (eI .i64) p1).length))], [((3, 1000), some (.row 1 (List.map (eI .i64) p1) true))]⟩ : St)) h (fun p1 h => ?_) (fun J1 L1 hL1 h => ?_)
  · refine tD Z ?_;obtain rfl := h;exact Qf (hQ _ _ (Ej Z Z Z Z))
  · refine tk fun L hL => ?_;refine dN 1 Z ?_;refine u0 QA ?_;refine dN 1 Z ?_;refine rt (hL _ ?_);refine Qt ?_;refine Zs (fun (s2 : (List Int) × Int) => (⟨[(3, .c (.sl (3, 1000) 0 (List.map (eI .i64) s2.1).length)), (6, .c (.p (.l 97 (List.map Qv a0)))), (7, .c (.p (.v (.int .i64 ((a0.length : Int)))))), (8, .c (.p (.v (.int .i64 s2.2))))], [((3, 1000), some (.row 1 (List.map (eI .i64) s2.1) true))]⟩ : St)) h ((QB.blk (3, 1050) 1).trans ((QB.slot 3 Z (.nilo (b := (3, 1050)) Z)).trans (QB.nm [3, 6, 7, 8] [((3, 1050), (3, 1000))] Z (by kernel_rfl)))) (fun X2 L2 hL2 s2 h => ?_);refine tD Z ?_;refine sk fun L3 hL3 => ?_;refine cn h (fun h => ?_) fun h => ?_
    · refine Qi (hL3 _ ?_);refine Z5 (fun (p4 : (List Int)) => (⟨[(3, .c (.sl (3, 1000) 0 (List.map (eI .i64) p4).length)), (6, .c (.p (.l 97 (List.map Qv a0)))), (7, .c (.p (.v (.int .i64 ((a0.length : Int)))))), (8, .c (.p (.v (.int .i64 s2.2))))], [((3, 1000), some (.row 1 (List.map (eI .i64) p4) true))]⟩ : St)) h (fun p4 h => ?_) (fun J4 L4 hL4 h => ?_)
      · refine tE Z (hL2 _ _ h QB.fit)
      · refine Qt ?_;refine tk fun L hL => ?_;refine dN 1 Z ?_;obtain ⟨v5, hv5, h⟩ := h;refine u0 (QC hv5) ?_;refine dN 4 Z ?_;refine rt (hL _ ?_);refine tD Z ?_;refine cn h (fun h => ?_) fun h => ?_
        · refine tl fun L hL => ?_;refine dN 2 Z ?_;refine ul (QD (rows := List.map (eI .i64) [s2.2])) ?_;obtain ⟨hm6, h⟩ := h;refine ul (QK (f := (eI .i64)) (L := s2.1) (L' := [s2.2]) hm6 Z Z Z Z Z Z Z Z Z Z Z (Z0 QL Z Z Z Z Z Z)) ?_;refine dN 1 Z ?_;refine rt (hL _ (hL4 _ _ h (QB.nm [3, 6, 7, 8] [((18, 0), (3, 1000))] Z (by kernel_rfl))))
        · refine Qi (hL4 _ _ h QB.fit)
    · refine QT (hL1 _ _ h QB.fit)
def U6 (a0 : Int) (Q : ((List Q5) × Int) → Prop) : Prop :=
 ((((bif decide (a0 < 1) then true else decide (a0 > 64))) = true → Q (([] : (List Q5)), 5)) ∧ (((bif decide (a0 < 1) then true else decide (a0 > 64))) = false → jn (fun (p2 : (List Q5)) => Q (p2, 0)) (fun (J2 : (List Q5) → Prop) => lp (fun (X3 : (List Q5) × Int → Prop) (s3 : (List Q5) × Int) => (((decide (s3.2 < a0)) = true → ((0 : Int) ≤ 4 ∧ (4 : Int) * ((40 : Nat) : Int) ≤ 140737488355328) ∧ ((0 : Int) ≤ 4 ∧ (4 : Int) * ((40 : Nat) : Int) ≤ 140737488355328) ∧ ((s3.1.length + ([(Q5.mk false (Qo.mk 0 ByteArray.empty ByteArray.empty ([] : (List ByteArray)) (Q9.mk 0 0 0 0) ([] : (List Qh)) ([] : (List Int)) 0 0 0 0 0 0 (Qu.mk 0 ByteArray.empty 0 0 0) ([] : (List Int))) (Qy.mk 0 0 false ([] : (List Int)) 0 (Qc.mk (Q9.mk 0 0 0 0) (Qp.mk 0 0 false) (Qa.mk 0 0 0 ([] : (List Int)) false) (Qj.mk 0 0 ([] : (List Int))) (Qs.mk 0 0 ([] : (List Q1)) false) (Qe.mk 0 0 0 ([] : (List Q1)) false) (Qk.mk 0 0 0 ([] : (List (List ByteArray))) false)) (Qc.mk (Q9.mk 0 0 0 0) (Qp.mk 0 0 false) (Qa.mk 0 0 0 ([] : (List Int)) false) (Qj.mk 0 0 ([] : (List Int))) (Qs.mk 0 0 ([] : (List Q1)) false) (Qe.mk 0 0 0 ([] : (List Q1)) false) (Qk.mk 0 0 0 ([] : (List (List ByteArray))) false)) 0 0 0 0 (Z8.mk 0 0) ([] : (List Int)) false) 0 (List.replicate (Int.toNat 4) (Qx.mk false 0 ([] : (List ByteArray)))) (List.replicate (Int.toNat 4) (QI.mk false 0 ByteArray.empty 0)))]).length) * 1088 ≤ 140737488355328) ∧ X3 ((s3.1 ++ ([(Q5.mk false (Qo.mk 0 ByteArray.empty ByteArray.empty ([] : (List ByteArray)) (Q9.mk 0 0 0 0) ([] : (List Qh)) ([] : (List Int)) 0 0 0 0 0 0 (Qu.mk 0 ByteArray.empty 0 0 0) ([] : (List Int))) (Qy.mk 0 0 false ([] : (List Int)) 0 (Qc.mk (Q9.mk 0 0 0 0) (Qp.mk 0 0 false) (Qa.mk 0 0 0 ([] : (List Int)) false) (Qj.mk 0 0 ([] : (List Int))) (Qs.mk 0 0 ([] : (List Q1)) false) (Qe.mk 0 0 0 ([] : (List Q1)) false) (Qk.mk 0 0 0 ([] : (List (List ByteArray))) false)) (Qc.mk (Q9.mk 0 0 0 0) (Qp.mk 0 0 false) (Qa.mk 0 0 0 ([] : (List Int)) false) (Qj.mk 0 0 ([] : (List Int))) (Qs.mk 0 0 ([] : (List Q1)) false) (Qe.mk 0 0 0 ([] : (List Q1)) false) (Qk.mk 0 0 0 ([] : (List (List ByteArray))) false)) 0 0 0 0 (Z8.mk 0 0) ([] : (List Int)) false) 0 (List.replicate (Int.toNat 4) (Qx.mk false 0 ([] : (List ByteArray)))) (List.replicate (Int.toNat 4) (QI.mk false 0 ByteArray.empty 0)))])), (IntKind.i64.wrap (s3.2 + 1)))) ∧ ((decide (s3.2 < a0)) = false → J2 s3.1))) (([] : (List Q5)), 0))))
def Vr (a0 : Int) (r : (List Q5) × Int) : Prop := U6 a0 fun x => r = x
theorem Ft {a0 : Int} {r : (List Q5) × Int} (h : Vr a0 r) : Qq Tryz.prog 36 [.c (.v (.int .i64 a0))] [.c (.own 97 (List.map Qv r.1)), .c (.p (.v (.int .i64 r.2)))] [] := by
  refine Qn tb Tryz.func36 Z (by kernel_rfl) Z Z (Nat.le_of_ble_eq_true Z) Z ?_;intro E;unfold Vr U6 at h;refine Z3 (fun Q hQ => ?_);refine tD Z ?_;refine sk fun L1 hL1 => ?_;refine tk fun L hL => ?_;refine dN 3 Z ?_;refine Q2 Z Z Q4 (fun hg => Qd Z Z) ?_;refine Q2 Z Z Q4 (fun hg => Qz (c := decide (a0 > 64)) (Qb hg) Z Z Z Z) ?_;refine u0 (Qm (v := .bool true) (w := .bool (decide (a0 > 64))) Z Z Q4 Z Qw) ?_;refine rt (hL _ ?_);refine cn h (fun h => ?_) fun h => ?_
  · refine tD Z ?_;obtain rfl := h;exact Qf (hQ _ _ (I9 Z Z Z Z))
  · refine Qi (hL1 _ ?_);refine QS (st' := ⟨[(0, .c (.p (.v (.int .i64 a0))))], []⟩) QB.fit ?_;refine tD Z ?_;refine Z5 (fun (p2 : (List Q5)) => (⟨[(4, .c (.sl (4, 1000) 0 (List.map Qv p2).length))], [((4, 1000), some (.row 97 (List.map Qv p2) true))]⟩ : St)) h (fun p2 h => ?_) (fun J2 L2 hL2 h => ?_)
    · refine tD Z ?_;obtain rfl := h;exact Qf (hQ _ _ (Ox Z Z Z Z Z))
    · refine tD Z ?_;refine Qt ?_;refine Zs (fun (s3 : (List Q5) × Int) => (⟨[(4, .c (.sl (4, 1000) 0 (List.map Qv s3.1).length)), (11, .c (.p (.v (.int .i64 a0)))), (12, .c (.p (.v (.int .i64 s3.2))))], [((4, 1000), some (.row 97 (List.map Qv s3.1) true))]⟩ : St)) h ((QB.blk (4, 1050) 97).trans ((QB.slot 4 Z (.nilo (b := (4, 1050)) Z)).trans (QB.nm [4, 11, 12] [((4, 1050), (4, 1000))] Z (by kernel_rfl)))) (fun X3 L3 hL3 s3 h => ?_);refine tD Z ?_;refine sk fun L4 hL4 => ?_;refine cn h (fun h => ?_) fun h => ?_
      · refine Qi (hL4 _ ?_);refine sk fun L5 hL5 => ?_;refine Qt ?_;refine dl mixed (fun L hL => ?_);refine dN 1 Z ?_;obtain ⟨hm6, h⟩ := h;refine u1 (XS (f := QF) (z := (Qx.mk false 0 ([] : (List ByteArray)))) hm6 Z Z Z Z Z Z Z Z Z (.c (.c (.cons (.nil _) .nil)))) ?_;obtain ⟨hm7, h⟩ := h;refine u1 (XS (f := QY) (z := (QI.mk false 0 ByteArray.empty 0)) hm7 Z Z Z Z Z Z Z Z Z (.c (.c (.c (.c .nil))))) ?_;refine dN 1 Z ?_;refine ul (ZD (b := (16, 0)) Z Z (ZD (b := (15, 0)) Z Z (Xn (rows := List.map Qv [(Q5.mk false (Qo.mk 0 ByteArray.empty ByteArray.empty ([] : (List ByteArray)) (Q9.mk 0 0 0 0) ([] : (List Qh)) ([] : (List Int)) 0 0 0 0 0 0 (Qu.mk 0 ByteArray.empty 0 0 0) ([] : (List Int))) (Qy.mk 0 0 false ([] : (List Int)) 0 (Qc.mk (Q9.mk 0 0 0 0) (Qp.mk 0 0 false) (Qa.mk 0 0 0 ([] : (List Int)) false) (Qj.mk 0 0 ([] : (List Int))) (Qs.mk 0 0 ([] : (List Q1)) false) (Qe.mk 0 0 0 ([] : (List Q1)) false) (Qk.mk 0 0 0 ([] : (List (List ByteArray))) false)) (Qc.mk (Q9.mk 0 0 0 0) (Qp.mk 0 0 false) (Qa.mk 0 0 0 ([] : (List Int)) false) (Qj.mk 0 0 ([] : (List Int))) (Qs.mk 0 0 ([] : (List Q1)) false) (Qe.mk 0 0 0 ([] : (List Q1)) false) (Qk.mk 0 0 0 ([] : (List (List ByteArray))) false)) 0 0 0 0 (Z8.mk 0 0) ([] : (List Int)) false) 0 (List.replicate (Int.toNat 4) (Qx.mk false 0 ([] : (List ByteArray)))) (List.replicate (Int.toNat 4) (QI.mk false 0 ByteArray.empty 0)))]) Z Z Z Z Z Z Z Z Z (.c (.c (.c (.c (.cons (.nil _) (.c (.c (.c (.c (.cons (.nil _) (.cons (.nil _) (.c (.c (.c (.c (.c (.c (.c (.c (.c (.c (.c (.cons (.nil _) (.c (.c (.c (.cons (.nil _) (.c (.c (.c (.c (.c (.c (.c (.c (.c (.c (.c (.cons (.nil _) (.c (.c (.c (.cons (.nil _) (.c (.c (.cons (.nil _) (.c (.c (.c (.c (.cons (.nil _) (.c (.c (.c (.c (.cons (.nil _) (.c (.c (.c (.c (.c (.c (.c (.c (.c (.c (.c (.cons (.nil _) (.c (.c (.c (.cons (.nil _) (.c (.c (.cons (.nil _) (.c (.c (.c (.c (.cons (.nil _) (.c (.c (.c (.c (.cons (.nil _) (.c (.c (.c (.c (.c (.c (.c (.cons (.nil _) (.c (.c (.cons (.fr Z (QG Z)) (.cons (.fr Z (QG Z)) .nil)))))))))))))))))))))))))))))))))))))))))))))))))))))))))))))))))))))))))))))))))))))))))))))))))))) ?_
        obtain ⟨hm8, h⟩ := h;refine ul (QK (f := Qv) (L := s3.1) (L' := [(Q5.mk false (Qo.mk 0 ByteArray.empty ByteArray.empty ([] : (List ByteArray)) (Q9.mk 0 0 0 0) ([] : (List Qh)) ([] : (List Int)) 0 0 0 0 0 0 (Qu.mk 0 ByteArray.empty 0 0 0) ([] : (List Int))) (Qy.mk 0 0 false ([] : (List Int)) 0 (Qc.mk (Q9.mk 0 0 0 0) (Qp.mk 0 0 false) (Qa.mk 0 0 0 ([] : (List Int)) false) (Qj.mk 0 0 ([] : (List Int))) (Qs.mk 0 0 ([] : (List Q1)) false) (Qe.mk 0 0 0 ([] : (List Q1)) false) (Qk.mk 0 0 0 ([] : (List (List ByteArray))) false)) (Qc.mk (Q9.mk 0 0 0 0) (Qp.mk 0 0 false) (Qa.mk 0 0 0 ([] : (List Int)) false) (Qj.mk 0 0 ([] : (List Int))) (Qs.mk 0 0 ([] : (List Q1)) false) (Qe.mk 0 0 0 ([] : (List Q1)) false) (Qk.mk 0 0 0 ([] : (List (List ByteArray))) false)) 0 0 0 0 (Z8.mk 0 0) ([] : (List Int)) false) 0 (List.replicate (Int.toNat 4) (Qx.mk false 0 ([] : (List ByteArray)))) (List.replicate (Int.toNat 4) (QI.mk false 0 ByteArray.empty 0)))]) hm8 Z Z Z Z Z Z Z Z Z Z Z (Z0 QL Z Z Z Z Z Z)) ?_
        refine dN 1 Z ?_;refine rd (hL _ (hL5 _ ?_));refine tE Z (hL3 _ _ h (QB.nm [4, 11, 12] [((19, 0), (4, 1000))] Z (by kernel_rfl)))
      · refine QT (hL2 _ _ h QB.fit)
def Uy  (Q : Bool → Prop) : Prop :=
 ∃ v1, Vr 2 v1 ∧ ∃ v2, Zd v1.1 1 (Qo.mk 4 ByteArray.empty ByteArray.empty ([] : (List ByteArray)) (Q9.mk 0 0 0 0) ([] : (List Qh)) ([] : (List Int)) 0 0 0 0 0 0 (Qu.mk 0 ByteArray.empty 0 0 0) ([] : (List Int))) 7 v2 ∧ ∃ v3, Zd v2.1 1 (Qo.mk 4 ByteArray.empty ByteArray.empty ([] : (List ByteArray)) (Q9.mk 0 0 0 0) ([] : (List Qh)) ([] : (List Int)) 0 0 0 0 0 0 (Qu.mk 0 ByteArray.empty 0 0 0) ([] : (List Int))) 8 v3 ∧ ∃ v4, JN v2.1 v4 ∧ ∃ v5, XC v2.1 1 v5 ∧ ∃ (v6 : Int), (((bif (bif (bif (bif (v1.2 == 0) then (v2.2 == 0) else false) then (v3.2 == 12) else false) then (v5.2 == 0) else false) then (((v4.length : Int)) == 1) else false)) = true → ix v4 0 v6) ∧ ∃ (v7 : Q5), (((bif (bif (bif (bif (bif (bif (v1.2 == 0) then (v2.2 == 0) else false) then (v3.2 == 12) else false) then (v5.2 == 0) else false) then (((v4.length : Int)) == 1) else false) then (v6 == 1) else false) then (((v5.1.length : Int)) == 2) else false)) = true → ix v5.1 1 v7) ∧ ∃ (v8 : Q5), (((bif (bif (bif (bif (bif (bif (bif (bif (v1.2 == 0) then (v2.2 == 0) else false) then (v3.2 == 12) else false) then (v5.2 == 0) else false) then (((v4.length : Int)) == 1) else false) then (v6 == 1) else false) then (((v5.1.length : Int)) == 2) else false) then !(v7.fb7) else false) then (((v2.1.length : Int)) == 2) else false)) = true → ix v2.1 1 v8) ∧ Q (((bif (bif (bif (bif (bif (bif (bif (bif (bif (v1.2 == 0) then (v2.2 == 0) else false) then (v3.2 == 12) else false) then (v5.2 == 0) else false) then (((v4.length : Int)) == 1) else false) then (v6 == 1) else false) then (((v5.1.length : Int)) == 2) else false) then !(v7.fb7) else false) then (((v2.1.length : Int)) == 2) else false) then (v8.fa3 == 7) else false)))
def Yc  (r : Bool) : Prop := Uy  fun x => r = x
theorem G9  {r : Bool} (h : Yc  r) : Qq Tryz.prog 12 [] [.c (.p (.v (.bool r)))] [] := by
  refine Qn tb Tryz.func12 Z (by kernel_rfl) Z Z (Nat.le_of_ble_eq_true Z) Z ?_;intro E;unfold Yc Uy at h;refine Z3 (fun Q hQ => ?_);refine tD Z ?_;refine tk fun L hL => ?_;obtain ⟨v1, hv1, h⟩ := h;refine ul (Zw (Ft hv1)) ?_;refine dN 5 Z ?_;refine rt (hL _ ?_);refine tk fun L hL => ?_;refine dN 2 Z ?_;obtain ⟨v2, hv2, h⟩ := h;refine ul (Y2 (XR hv2) Z Z (.cons (.c (.fr Z (QG Z))) (.cons (.c (.p _)) (.cons (.agg (.pp (.pp (.pp (.cons (.nil _) (.pp (.pp (.pp (.pp (.cons (.nil _) (.cons (.nil _) (.pp (.pp (.pp (.pp (.pp (.pp (.pp (.pp (.pp (.pp (.pp (.cons (.nil _) .nil))))))))))))))))))))))) (.cons (.c (.p _)) .nil))))) ?_;refine dN 5 Z ?_;refine rt (hL _ ?_);refine tk fun L hL => ?_;refine dN 2 Z ?_;obtain ⟨v3, hv3, h⟩ := h;refine ul (Y2 (XR hv3) Z Z (.cons (.c (.fr Z (QG Z))) (.cons (.c (.p _)) (.cons (.agg (.pp (.pp (.pp (.cons (.nil _) (.pp (.pp (.pp (.pp (.cons (.nil _) (.cons (.nil _) (.pp (.pp (.pp (.pp (.pp (.pp (.pp (.pp (.pp (.pp (.pp (.cons (.nil _) .nil))))))))))))))))))))))) (.cons (.c (.p _)) .nil))))) ?_;refine dN 5 Z ?_;refine rt (hL _ ?_);refine tk fun L hL => ?_;refine dN 1 Z ?_
  obtain ⟨v4, hv4, h⟩ := h;refine ul (Zi (Co hv4) (YG (K4.cons (.o (Uf N9)) K4.nil)) Z Z (.cons (.c (.fr Z (QG Z))) .nil)) ?_;refine dN 1 Z ?_;refine rt (hL _ ?_);refine tk fun L hL => ?_;refine dN 1 Z ?_;obtain ⟨v5, hv5, h⟩ := h;refine ul (Y2 (Fs hv5) Z Z (.cons (.c (.fr Z (QG Z))) (.cons (.c (.p _)) .nil))) ?_;refine dN 5 Z ?_;refine rt (hL _ ?_);refine tk fun L hL => ?_;refine dN 3 Z ?_;refine Q2 Z Z Q6 (fun hg => Qd Z Z) ?_;refine Q2 Z Z Q6 (fun hg => Qz (c := (v2.2 == 0)) (Qb hg) Z Z Z Z) ?_;refine u0 (Ql (v := .bool ((v2.2 == 0))) (w := .bool false) Z Z Q6 Z Qw) ?_;refine dN 1 Z ?_;refine Q2 Z Z Q6 (fun hg => Qd Z Z) ?_;refine Q2 Z Z Q6 (fun hg => Qz (c := (v3.2 == 12)) (Qb hg) Z Z Z Z) ?_;refine u0 (Ql (v := .bool ((v3.2 == 12))) (w := .bool false) Z Z Q6 Z Qw) ?_;refine dN 1 Z ?_;refine Q2 Z Z Q6 (fun hg => Qd Z Z) ?_;refine Q2 Z Z Q6 (fun hg => Qz (c := (v5.2 == 0)) (Qb hg) Z Z Z Z) ?_;refine u0 (Ql (v := .bool ((v5.2 == 0))) (w := .bool false) Z Z Q6 Z Qw) ?_;refine dN 1 Z ?_;refine Q2 Z Z Q6 (fun hg => Qd Z Z) ?_
  refine Q2 Z Z Q6 (fun hg => Ki (Qb hg) Z Z Z Z Z) ?_;refine Q2 Z Z Q6 (fun hg => Qz (c := (((v4.length : Int)) == 1)) (Qb hg) Z Z Z Z) ?_;refine u0 (Ql (v := .bool ((((v4.length : Int)) == 1))) (w := .bool false) Z Z Q6 Z Qw) ?_;refine dN 1 Z ?_;refine Q2 Z Z Q6 (fun hg => Qd Z Z) ?_;obtain ⟨v6, hv6, h⟩ := h;refine Q2 Z Z Q6 (fun hg => QU (hv6 hg) (Qb hg) Z Z Z Z Z Z Z Z Z) ?_;refine Q2 Z Z Q6 (fun hg => QW (Qb hg) Z (gm (hv6 hg).2) Z Z Z Z) ?_;refine Q2 Z Z Q6 (fun hg => Qz (c := (v6 == 1)) (Qb hg) Z Z Z Z) ?_;refine u0 (Ql (v := .bool ((v6 == 1))) (w := .bool false) Z Z Q6 Z Qw) ?_;refine dN 1 Z ?_;refine Q2 Z Z Q6 (fun hg => Qd Z Z) ?_;refine Q2 Z Z Q6 (fun hg => Ki (Qb hg) Z Z Z Z Z) ?_;refine Q2 Z Z Q6 (fun hg => Qz (c := (((v5.1.length : Int)) == 2)) (Qb hg) Z Z Z Z) ?_;refine u0 (Ql (v := .bool ((((v5.1.length : Int)) == 2))) (w := .bool false) Z Z Q6 Z Qw) ?_;refine dN 1 Z ?_;refine Q2 Z Z Q6 (fun hg => Qd Z Z) ?_;obtain ⟨v7, hv7, h⟩ := h;refine Q2 Z Z Q6 (fun hg => QU (hv7 hg) (Qb hg) Z Z Z Z Z Z Z Z Z) ?_
  refine Q2 Z Z Q6 (fun hg => Q7 (Qb hg) Z Z Z Z Z Z Z Z) ?_;refine Q2 Z Z Q6 (fun hg => QW (Qb hg) Z (gm (hv7 hg).2) Z Z Z Z) ?_;refine Q2 Z Z Q6 (fun hg => Z4 (Qb hg) Z Z) ?_;refine u0 (Ql (v := .bool (!(v7.fb7))) (w := .bool false) Z Z Q6 Z Qw) ?_;refine dN 1 Z ?_;refine Q2 Z Z Q6 (fun hg => Qd Z Z) ?_;refine Q2 Z Z Q6 (fun hg => Ki (Qb hg) Z Z Z Z Z) ?_;refine Q2 Z Z Q6 (fun hg => Qz (c := (((v2.1.length : Int)) == 2)) (Qb hg) Z Z Z Z) ?_;refine u0 (Ql (v := .bool ((((v2.1.length : Int)) == 2))) (w := .bool false) Z Z Q6 Z Qw) ?_;refine dN 1 Z ?_;refine Q2 Z Z Q6 (fun hg => Qd Z Z) ?_;obtain ⟨v8, hv8, h⟩ := h;refine Q2 Z Z Q6 (fun hg => QU (hv8 hg) (Qb hg) Z Z Z Z Z Z Z Z Z) ?_;refine Q2 Z Z Q6 (fun hg => Q7 (Qb hg) Z Z Z Z Z Z Z Z) ?_;refine Q2 Z Z Q6 (fun hg => QW (Qb hg) Z (gm (hv8 hg).2) Z Z Z Z) ?_;refine Q2 Z Z Q6 (fun hg => Qz (c := (v8.fa3 == 7)) (Qb hg) Z Z Z Z) ?_;refine u0 (Ql (v := .bool ((v8.fa3 == 7))) (w := .bool false) Z Z Q6 Z Qw) ?_;refine dN 1 Z ?_
  refine rt (hL _ ?_);refine QS (st' := ⟨[(0, .c (.p (.v (.bool ((bif (bif (bif (bif (bif (bif (bif (bif (bif (v1.2 == 0) then (v2.2 == 0) else false) then (v3.2 == 12) else false) then (v5.2 == 0) else false) then (((v4.length : Int)) == 1) else false) then (v6 == 1) else false) then (((v5.1.length : Int)) == 2) else false) then !(v7.fb7) else false) then (((v2.1.length : Int)) == 2) else false) then (v8.fa3 == 7) else false))))))], []⟩) QB.fit ?_;obtain rfl := h;exact Qf (hQ _ _ (Zt Z Z))
set_option maxRecDepth 100000
set_option maxHeartbeats 4000000
end Go.Proofs.YtpnpodbihdiegaaGreat

namespace Go.Proofs.YtpnpodbihdiegaaGreat
open Go.RowKit
theorem JO {a b : Bool} : (bif a then b else false) = (a && b) := by cases a <;> rfl
theorem Jr {a b : Bool} : (bif a then true else b) = (a || b) := by cases a <;> rfl
theorem U7 {n lo hi : Int} {r : Bool} : Zp n lo hi r ↔ r = wI n lo hi := by
  unfold Zp U0 wI; by_cases h : lo ≤ n <;> simp [h]
theorem B6 {n lo hi : Int} {r : Bool} : Zy n lo hi r ↔ r = wI n lo hi := by
  unfold Zy WX wI; by_cases h : lo ≤ n <;> simp [h]
theorem ZG {n lo hi : Int} {r : Bool} : QP n lo hi r ↔ r = wI n lo hi := by
  unfold QP Uq wI; by_cases h : lo ≤ n <;> simp [h]
theorem Ex {n lo hi : Int} {r : Bool} : Kd n lo hi r ↔ r = wI n lo hi := by
  unfold Kd WG wI; by_cases h : lo ≤ n <;> simp [h]
theorem Fu {n lo hi : Int} {r : Bool} : JK n lo hi r ↔ r = wI n lo hi := by
  unfold JK U1 wI; by_cases h : lo ≤ n <;> simp [h]
theorem Ga {c : Int} {r : Bool} : Xb c r ↔ r = wI c 97 122 := by
  unfold Xb Uu wI; by_cases h : (97 : Int) ≤ c <;> simp [h]
theorem Gb {c : Int} {r : Bool} : Y9 c r ↔ r = wI c 48 57 := by
  unfold Y9 Uv wI; by_cases h : (48 : Int) ≤ c <;> simp [h]
theorem XY {n lo hi : Int} {r : Int} : Za n lo hi r ↔ r = if lo ≤ n ∧ n ≤ hi then 0 else 5 := by
  unfold Za XU
  by_cases h : n < lo
  · simp [h]; rw [if_neg (by omega)]
  · by_cases h2 : n > hi
    · simp [h, h2]; rw [if_neg (by omega)]
    · simp [h, h2]; rw [if_pos (by omega)]
theorem LU {s : ByteArray} : (decide (1 ≤ (s.size : Int)) && decide ((s.size : Int) ≤ 32)) = decide (1 ≤ s.size ∧ s.size ≤ 32) := by
  rw [Bool.decide_and]; congr 1 <;> exact decide_eq_decide.2 (by omega)
theorem BO {s : ByteArray} {r : Bool} : Xc s r ↔ r = decide (1 ≤ s.size ∧ s.size ≤ 32) := by
  unfold Xc Uw; rw [JO, ← LU]
theorem VK {s : ByteArray} {r : Bool} : Kv s r ↔ r = decide (1 ≤ s.size ∧ s.size ≤ 32) := by
  unfold Kv A1; rw [JO, ← LU]
def U8 (k s d z : Int) : Int :=
  if k = 1 then (if s ≠ 0 ∨ d ≠ 0 ∨ z ≠ 0 then 10 else 0)
  else if k = 2 then (if ¬ (1 ≤ d ∧ d ≤ 8 ∧ 1 ≤ s ∧ s ≤ 64) then 5 else 0)
  else if k = 3 then (if ¬ (2 ≤ s ∧ s ≤ 8) then 5 else if d ≠ 0 then 10 else 0)
  else if k = 4 ∨ k = 5 then (if ¬ (1 ≤ s ∧ s ≤ 32) then 5 else if d ≠ 0 ∨ z ≠ 0 then 10 else 0)
  else if k = 6 then (if ¬ (2 ≤ s ∧ s ≤ 32 ∧ s % 2 = 0) then 5 else if d ≠ 0 ∨ z ≠ 0 then 10 else 0)
  else 8
theorem UM (p : Q9) : Km p (U8 p.fk p.fg p.fu p.fw) := by
  unfold Km Vm
  simp only [jn, Ex, exists_eq_left, JO, Jr]
  obtain ⟨k, s, d, z⟩ := p
  simp only
  by_cases h1 : k = 1
  · subst h1; by_cases hs : s = 0 <;> by_cases hd : d = 0 <;> by_cases hz : z = 0 <;> simp [U8, hs, hd, hz]
  by_cases h2 : k = 2
  · subst h2
    by_cases hd : wI d 1 8 = true <;> by_cases hs : wI s 1 64 = true <;> simp [U8, hs, hd] <;> simp [wI] at hs hd <;> omega
  by_cases h3 : k = 3
  · subst h3
    by_cases hd : d = 0 <;> by_cases hs : wI s 2 8 = true <;> simp [U8, hs, hd] <;> simp [wI] at hs hd <;> omega
  by_cases h4 : k = 4 ∨ k = 5
  · have hk : (k == 4 || k == 5) = true := by simpa using h4
    by_cases hd : d = 0 <;> by_cases hz : z = 0 <;> by_cases hs : wI s 1 32 = true <;> rcases h4 with rfl | rfl <;> simp [U8, hs, hd, hz] <;> simp [wI] at hs hd <;> omega
  by_cases h6 : k = 6
  · subst h6
    by_cases hs : wI s 2 32 = true
    · have hs' : 2 ≤ s ∧ s ≤ 32 := by simpa [wI] using hs
      have ht : s.tmod 2 = s % 2 := Int.tmod_eq_emod_of_nonneg (by omega)
      by_cases hm : s % 2 = 0 <;> by_cases hd : d = 0 <;> by_cases hz : z = 0 <;> simp [U8, hs, hd, hz, ht, hm, hs']
    · have hs' : ¬ (2 ≤ s ∧ s ≤ 32) := by simpa [wI] using hs
      simp [U8, hs]; omega
  · have h4' : ¬ k = 4 ∧ ¬ k = 5 := by omega
    simp [U8, h1, h2, h3, h4'.1, h4'.2, h6]
theorem VL (p : Q9) : Zo p (U8 p.fk p.fg p.fu p.fw) := by
  unfold Zo VE
  simp only [jn, B6, exists_eq_left, JO, Jr]
  obtain ⟨k, s, d, z⟩ := p
  simp only
  by_cases h1 : k = 1
  · subst h1; by_cases hs : s = 0 <;> by_cases hd : d = 0 <;> by_cases hz : z = 0 <;> simp [U8, hs, hd, hz]
  by_cases h2 : k = 2
  · subst h2
    by_cases hd : wI d 1 8 = true <;> by_cases hs : wI s 1 64 = true <;> simp [U8, hs, hd] <;> simp [wI] at hs hd <;> omega
  by_cases h3 : k = 3
  · subst h3
    by_cases hd : d = 0 <;> by_cases hs : wI s 2 8 = true <;> simp [U8, hs, hd] <;> simp [wI] at hs hd <;> omega
  by_cases h4 : k = 4 ∨ k = 5
  · have hk : (k == 4 || k == 5) = true := by simpa using h4
    by_cases hd : d = 0 <;> by_cases hz : z = 0 <;> by_cases hs : wI s 1 32 = true <;> rcases h4 with rfl | rfl <;> simp [U8, hs, hd, hz] <;> simp [wI] at hs hd <;> omega
  by_cases h6 : k = 6
  · subst h6
    by_cases hs : wI s 2 32 = true
    · have hs' : 2 ≤ s ∧ s ≤ 32 := by simpa [wI] using hs
      have ht : s.tmod 2 = s % 2 := Int.tmod_eq_emod_of_nonneg (by omega)
      by_cases hm : s % 2 = 0 <;> by_cases hd : d = 0 <;> by_cases hz : z = 0 <;> simp [U8, hs, hd, hz, ht, hm, hs']
    · have hs' : ¬ (2 ≤ s ∧ s ≤ 32) := by simpa [wI] using hs
      simp [U8, hs]; omega
  · have h4' : ¬ k = 4 ∧ ¬ k = 5 := by omega
    simp [U8, h1, h2, h3, h4'.1, h4'.2, h6]
def AB (k : Int) (key : ByteArray) (c n d : Int) : Int :=
  if ¬ (1 ≤ k ∧ k ≤ 7) then 8
  else if (k = 2 ∨ k = 6) ∧ ¬ (1 ≤ key.size ∧ key.size ≤ 32) then 7
  else if k = 5 ∧ ¬ (0 ≤ c ∧ c ≤ 32) then 5
  else if k = 7 ∧ ¬ (1 ≤ d ∧ d ≤ 1000000 ∧ 0 ≤ n ∧ n ≤ d) then 5
  else if (¬ (k = 2 ∨ k = 6) ∧ key.toList ≠ []) ∨ (k ≠ 5 ∧ c ≠ 0) ∨ (k ≠ 7 ∧ (n ≠ 0 ∨ d ≠ 0)) then 18 else 0
theorem Yn : (⟨#[]⟩ : ByteArray).toList = [] := by unfold ByteArray.toList; unfold ByteArray.toList.loop; simp [ByteArray.size]
theorem DT (q : Qu) : Vn q (AB q.fk q.fa4 q.fv q.fb9 q.fb8) := by
  unfold Vn Wd
  simp only [jn, BO, JO, Jr, Yn]
  obtain ⟨k, s, c, n, d⟩ := q
  simp only
  by_cases hk : 1 ≤ k ∧ k ≤ 7
  · have h7 : k = 1 ∨ k = 2 ∨ k = 3 ∨ k = 4 ∨ k = 5 ∨ k = 6 ∨ k = 7 := by omega
    clear hk; unfold AB
    generalize s.toList = l
    rcases h7 with rfl | rfl | rfl | rfl | rfl | rfl | rfl
    all_goals simp
    all_goals grind
  · have h1 : k < 1 ∨ k > 7 := by omega
    simp [AB, hk, h1]
theorem AC (q : Qu) : Ka q (AB q.fk q.fa4 q.fv q.fb9 q.fb8) := by
  unfold Ka Xe
  simp only [jn, VK, B6, exists_eq_left, JO, Jr, Yn]
  obtain ⟨k, s, c, n, d⟩ := q
  simp only
  by_cases hk : 1 ≤ k ∧ k ≤ 7
  · have h7 : k = 1 ∨ k = 2 ∨ k = 3 ∨ k = 4 ∨ k = 5 ∨ k = 6 ∨ k = 7 := by omega
    clear hk; unfold AB
    generalize s.toList = l
    rcases h7 with rfl | rfl | rfl | rfl | rfl | rfl | rfl
    all_goals simp [wI]
    all_goals grind
  · have h1 : k < 1 ∨ k > 7 := by omega
    have h2 : wI k 1 7 = false := by simp [wI]; omega
    simp [AB, hk, h1, h2]
theorem Fv (n : Nat) (hn : n ≤ 4611686018427387904) {B : (Int → Prop) → Int → Prop} {J : Prop} (I : Nat → Prop) (h0 : I 0)
    (hB : ∀ j, j < n → I j → ∀ X : Int → Prop, (I (j + 1) → X (IntKind.i64.wrap ((j : Int) + 1))) → B X (j : Int)) (hJ : I n → J) :
    lp (fun X s => (decide (s < (n : Int)) = true → B X s) ∧ (decide (s < (n : Int)) = false → J)) 0 := by
  refine Kq (I := fun k s => ∃ j : Nat, s = (j : Int) ∧ j ≤ n ∧ k = n - j ∧ I j) ?_ (k := n) ⟨0, rfl, by omega, by omega, h0⟩
  rintro k s ⟨j, rfl, hj, hk, hI⟩ X hX
  refine ⟨fun h => ?_, fun h => ?_⟩
  · have hj2 : (j : Int) < n := by simpa using h
    refine hB j (by omega) hI X fun hI2 => ?_
    rw [Zr (by omega)]
    exact hX (n - (j + 1)) _ (by omega) ⟨j + 1, by omega, by omega, rfl, hI2⟩
  · have hj2 : ¬ (j : Int) < n := by simpa using h
    have : j = n := by omega
    subst this; exact hJ hI
def B7 (s : ByteArray) (j : Nat) : Int := if h : j < s.size then (s[j].toNat : Int) else 0
theorem B8 {s : ByteArray} {j : Nat} (h : j < s.size) : bx s (j : Int) (B7 s j) := bx_of rfl h (by simp [B7, h])
def NX (c : Int) : Bool := wI c 97 122 || wI c 48 57 || c == 45 || c == 46
def Da (s : ByteArray) : Bool := decide (1 ≤ s.size ∧ s.size ≤ 16) && wI (B7 s 0) 97 122 && (List.range s.size).all fun j => NX (B7 s j)
theorem LV {s : ByteArray} (h1 : 1 ≤ s.size ∧ s.size ≤ 16) (h2 : wI (B7 s 0) 97 122 = true) (h : ∀ i, i < s.size → NX (B7 s i) = true) : Da s = true := by
  simp only [Da, h1, h2]; simpa using h
theorem LW {s : ByteArray} {i : Nat} (hi : i < s.size) (h : NX (B7 s i) = false) : Da s = false := by
  have : ((List.range s.size).all fun j => NX (B7 s j)) = false := by
    rw [List.all_eq_false]; exact ⟨i, by simpa using hi, by simp [h]⟩
  simp [Da, this]
theorem Fw (s : ByteArray) : Xy s (Da s) := by
  unfold Xy U3
  simp only [Ga, Gb, JO, Jr, jn, exists_eq_left]
  by_cases hz : 1 ≤ s.size ∧ s.size ≤ 16
  · have h1 : decide ((s.size : Int) < 1) = false := by simp; omega
    have h2 : decide ((s.size : Int) > 16) = false := by simp; omega
    rw [h1, h2]
    refine ⟨B7 s 0, fun _ => B8 (j := 0) (by omega), wI (B7 s 0) 97 122, fun _ => rfl, ?_, ?_⟩
    · intro h; simp at h; simp [Da, h]
    · intro h
      have h3 : wI (B7 s 0) 97 122 = true := by simpa using h
      refine Fv s.size (by omega) (fun j => ∀ i, i < j → NX (B7 s i) = true) (fun i hi => absurd hi (by omega)) ?_ ?_
      · intro j hj hI X hX
        refine ⟨B7 s j, B8 hj, wI (B7 s j) 48 57, fun _ => rfl, ?_, ?_⟩
        · intro hb; refine LW hj ?_; simp at hb; simp [NX, hb]
        · intro hb; refine hX fun i hi => ?_
          by_cases e : i = j
          · subst e; unfold NX; revert hb; cases wI (B7 s i) 97 122 <;> cases wI (B7 s i) 48 57 <;> simp <;> grind
          · exact hI i (by omega)
      · intro hI; exact LV hz h3 hI
  · refine ⟨0, ?_, false, ?_, ?_, ?_⟩
    · intro h; simp at h; omega
    · intro h; simp at h; omega
    · intro h; simp [Da, hz]
    · intro h; simp at h
theorem Uz (s : ByteArray) : V7 s (Da s) := by
  unfold V7 Ur
  simp only [Fu, JO, Jr, jn, exists_eq_left]
  by_cases hz : 1 ≤ s.size ∧ s.size ≤ 16
  · have h1 : decide ((s.size : Int) < 1) = false := by simp; omega
    have h2 : decide ((s.size : Int) > 16) = false := by simp; omega
    rw [h1, h2]
    refine ⟨B7 s 0, fun _ => B8 (j := 0) (by omega), wI (B7 s 0) 97 122, fun _ => rfl, ?_, ?_⟩
    · intro h; simp at h; simp [Da, h]
    · intro h
      have h3 : wI (B7 s 0) 97 122 = true := by simpa using h
      refine Fv s.size (by omega) (fun j => ∀ i, i < j → NX (B7 s i) = true) (fun i hi => absurd hi (by omega)) ?_ ?_
      · intro j hj hI X hX
        refine ⟨B7 s j, B8 hj, B7 s j, fun _ => B8 hj, wI (B7 s j) 48 57, fun _ => rfl, B7 s j, fun _ => B8 hj, B7 s j, fun _ => B8 hj, ?_, ?_⟩
        · intro hb; refine LW hj ?_; simp at hb; simp [NX, hb]
        · intro hb; refine hX fun i hi => ?_
          by_cases e : i = j
          · subst e; unfold NX; revert hb; cases wI (B7 s i) 97 122 <;> cases wI (B7 s i) 48 57 <;> simp <;> grind
          · exact hI i (by omega)
      · intro hI; exact LV hz h3 hI
  · refine ⟨0, ?_, false, ?_, ?_, ?_⟩
    · intro h; simp at h; omega
    · intro h; simp at h; omega
    · intro h; simp [Da, hz]
    · intro h; simp at h
theorem Wg (s : ByteArray) : JB s (if Da s = true then 0 else 6) := by
  refine ⟨Da s, Fw s, ?_, ?_⟩ <;> intro h <;> simp at h <;> simp [h]
def Fx (x : Qh) : Int := if ¬ (1 ≤ x.fa4.size ∧ x.fa4.size ≤ 32) then 7 else if ¬ (1 ≤ x.fa8 ∧ x.fa8 ≤ 4294967295) then 5 else 0
theorem B9 (x : Qh) : Ja x (Fx x) := by
  unfold Ja Xz Fx
  simp only [BO, JO, Jr, exists_eq_left]
  by_cases h : 1 ≤ x.fa4.size ∧ x.fa4.size ≤ 32 <;> simp [h]; grind
theorem WL (x : Qh) : Z7 x (Fx x) := by
  unfold Z7 XT Fx
  simp only [VK, JO, Jr, exists_eq_left]
  by_cases h : 1 ≤ x.fa4.size ∧ x.fa4.size ≤ 32 <;> simp [h]; grind
def Bv {α : Type} (f : α → Int) : List α → Int
  | [] => 0
  | x :: r => if f x ≠ 0 then f x else Bv f r
theorem Fy {α : Type} {f : α → Int} {l : List α} (h : ∀ (j : Nat) x, l[j]? = some x → f x = 0) : Bv f l = 0 := by
  induction l with
  | nil => rfl
  | cons x r ih => simp [Bv, h 0 x rfl]; exact ih fun j x hx => h (j + 1) x (by simpa using hx)
theorem EL {α : Type} {f : α → Int} {l : List α} {j : Nat} {x : α} (hx : l[j]? = some x) (hn : f x ≠ 0) (h : ∀ i, i < j → ∀ y, l[i]? = some y → f y = 0) : Bv f l = f x := by
  induction l generalizing j with
  | nil => simp at hx
  | cons z r ih =>
    cases j with
    | zero => simp at hx; subst hx; simp [Bv, hn]
    | succ j =>
      simp [Bv, h 0 (by omega) z rfl]
      exact ih (by simpa using hx) fun i hi y hy => h (i + 1) (by omega) y (by simpa using hy)
theorem Db {α : Type} {l : List α} (hl : l.length ≤ 4611686018427387904) {B : (Int → Prop) → Int → Prop} {J : Prop} {f : α → Int}
    (hB : ∀ (j : Nat) x, l[j]? = some x → (∀ i, i < j → ∀ y, l[i]? = some y → f y = 0) → ∀ X : Int → Prop, (f x = 0 → X (IntKind.i64.wrap ((j : Int) + 1))) → B X (j : Int)) (hJ : Bv f l = 0 → J) :
    lp (fun X s => (decide (s < (l.length : Int)) = true → B X s) ∧ (decide (s < (l.length : Int)) = false → J)) 0 := by
  refine Fv l.length hl (fun j => ∀ i, i < j → ∀ y, l[i]? = some y → f y = 0) (fun i hi => absurd hi (by omega)) ?_ ?_
  · intro j hj hI X hX
    obtain ⟨x, hx⟩ : ∃ x, l[j]? = some x := ⟨l[j], by simp [hj]⟩
    refine hB j x hx hI X fun h0 => hX fun i hi y hy => ?_
    by_cases e : i = j
    · subst e; rw [hx] at hy; cases hy; exact h0
    · exact hI i (by omega) y hy
  · intro hI
    refine hJ (Fy fun j x hx => hI j ?_ x hx)
    rw [List.getElem?_eq_some_iff] at hx; exact hx.1
def Cp (s : ByteArray) : Int := if Da s = true then 0 else 6
def Hy (l : List ByteArray) : Int := if ¬ (1 ≤ l.length ∧ l.length ≤ 16) then 5 else Bv Cp l
def Hz (l : List Qh) : Int := if ¬ (1 ≤ l.length ∧ l.length ≤ 64) then 5 else Bv Fx l
theorem DU (l : List ByteArray) : Vl l (Hy l) := by
  unfold Vl Wc
  simp only [XY, exists_eq_left, jn]
  by_cases hz : 1 ≤ l.length ∧ l.length ≤ 16
  · have e : ((1 : Int) ≤ l.length ∧ (l.length : Int) ≤ 16) := by omega
    rw [if_pos e]
    refine ⟨fun h => by simp at h, fun _ => ?_⟩
    refine Db (f := Cp) (by omega) ?_ ?_
    · intro j x hx hb X hX
      refine ⟨x, V9 rfl hx, Cp x, Wg x, fun h => ?_, fun h => hX (by simpa using h)⟩
      have hn : Cp x ≠ 0 := by simpa using h
      simp only [Hy, hz, not_true, and_self, if_false]; exact EL hx hn hb
    · intro h; simp [Hy, hz, h]
  · have e : ¬ ((1 : Int) ≤ l.length ∧ (l.length : Int) ≤ 16) := by omega
    rw [if_neg e]
    exact ⟨fun _ => by simp [Hy, hz], fun h => by simp at h⟩
theorem Dc (l : List Qh) : V1 l (Hz l) := by
  unfold V1 YO
  simp only [XY, exists_eq_left, jn]
  by_cases hz : 1 ≤ l.length ∧ l.length ≤ 64
  · have e : ((1 : Int) ≤ l.length ∧ (l.length : Int) ≤ 64) := by omega
    rw [if_pos e]
    refine ⟨fun h => by simp at h, fun _ => ?_⟩
    refine Db (f := Fx) (by omega) ?_ ?_
    · intro j x hx hb X hX
      refine ⟨x, V9 rfl hx, Fx x, B9 x, fun h => ?_, fun h => hX (by simpa using h)⟩
      have hn : Fx x ≠ 0 := by simpa using h
      simp only [Hz, hz, not_true, and_self, if_false]; exact EL hx hn hb
    · intro h; simp [Hz, hz, h]
  · have e : ¬ ((1 : Int) ≤ l.length ∧ (l.length : Int) ≤ 64) := by omega
    rw [if_neg e]
    exact ⟨fun _ => by simp [Hz, hz], fun h => by simp at h⟩
theorem KX (x : Int) (l : List Int) (hl : l.length ≤ 100) : ZT x l (l.contains x) := by
  unfold ZT Cn
  simp only [jn]
  refine Db (f := fun y => if y = x then 1 else 0) (by omega) ?_ ?_
  · intro j y hy hb X hX
    refine ⟨y, V9 rfl hy, fun h => ?_, fun h => hX (by simp at h; simp [h])⟩
    simp at h; subst h; simp; exact List.mem_of_getElem? hy
  · intro h
    cases hc : l.contains x with
    | false => rfl
    | true =>
      exfalso
      have hm : x ∈ l := by simpa using hc
      obtain ⟨j, hj⟩ := List.getElem?_of_mem hm
      have : ∀ (l : List Int), x ∈ l → Bv (fun y => if y = x then 1 else 0) l ≠ 0 := by
        intro l; induction l with
        | nil => simp
        | cons a r ih => intro h; unfold Bv; by_cases e : a = x <;> simp [e]; have := ih (by simpa [Ne.symm e] using h); simpa using this
      exact this l hm h
def Ab (k : Int) : Kt := Kt.mk ([1, 2, 3, 5, 6, 7, 8, 16].contains k) ([3, 7, 8].contains k) ([9].contains k) ([1].contains k) ([6].contains k) ([6, 7, 8].contains k) ([8].contains k) ([10, 11, 12, 15].contains k) ([10, 12, 15].contains k) ([13, 14].contains k) ([13].contains k) ([5, 10].contains k) ([16].contains k)
theorem Hj (k : Int) : YM k (Ab k) := by
  unfold YM A8
  exact ⟨_, KX _ _ (by simp), _, KX _ _ (by simp), _, KX _ _ (by simp), _, KX _ _ (by simp), _, KX _ _ (by simp), _, KX _ _ (by simp), _, KX _ _ (by simp), _, KX _ _ (by simp), _, KX _ _ (by simp), _, KX _ _ (by simp), _, KX _ _ (by simp), _, KX _ _ (by simp), _, KX _ _ (by simp), rfl⟩
def DV (x : Qo) (a b : Bool) : Int := if a = true ∧ Hy x.fa0 ≠ 0 then Hy x.fa0 else if b = true then Hz x.f0 else 0
theorem BP (x : Qo) (a b : Bool) : Jt x a b (DV x a b) := by
  have part2 : ((b = true → ∃ v, Zp (x.f0.length : Int) 1 64 v ∧ ((!v) = true → Hz x.f0 = 5) ∧ ((!v) = false → Bv Fx x.f0 = Hz x.f0))) := by
    intro hb
    refine ⟨_, U7.2 rfl, ?_, ?_⟩ <;> intro h <;> simp [wI] at h <;> simp [Hz] <;> omega
  unfold Jt Ut
  simp only [U7, exists_eq_left, jn]
  have rest : (a = true → Hy x.fa0 = 0) → (b = true →
          (((!wI (↑x.f0.length) 1 64) = true → DV x a b = 5) ∧
            ((!wI (↑x.f0.length) 1 64) = false → lp (fun X12 s12 => (decide (s12 < (x.f0.length : Int)) = true →
                      ∃ v15, ix x.f0 s12 v15 ∧ ∃ v16, Z7 v15 v16 ∧ ((v16 != 0) = true → DV x a b = v16) ∧ ((v16 != 0) = false → X12 (IntKind.i64.wrap (s12 + 1)))) ∧
                    (decide (s12 < (x.f0.length : Int)) = false → DV x a b = 0)) 0))) ∧ (b = false → DV x a b = 0) := by
    intro ha
    have e0 : DV x a b = if b = true then Hz x.f0 else 0 := by
      unfold DV; rw [if_neg (fun h => h.2 (ha h.1))]
    rw [e0]
    refine ⟨fun hb => ?_, fun hb => by simp [hb]⟩
    rw [if_pos hb]
    by_cases hz : 1 ≤ x.f0.length ∧ x.f0.length ≤ 64
    · have e : wI (x.f0.length : Int) 1 64 = true := by simp [wI]; omega
      refine ⟨fun h => by simp [e] at h, fun _ => ?_⟩
      refine Db (f := Fx) (by omega) ?_ ?_
      · intro j y hy hbb X hX
        refine ⟨y, V9 rfl hy, Fx y, WL y, fun h => ?_, fun h => hX (by simpa using h)⟩
        have hn : Fx y ≠ 0 := by simpa using h
        simp only [Hz, hz, not_true, and_self, if_false]; exact EL hy hn hbb
      · intro h; simp [Hz, hz, h]
    · have e : wI (x.f0.length : Int) 1 64 = false := by simp [wI]; omega
      exact ⟨fun _ => by simp [Hz, hz], fun h => by simp [e] at h⟩
  refine ⟨fun ha => ?_, fun ha => rest (by simp [ha])⟩
  by_cases hz : 1 ≤ x.fa0.length ∧ x.fa0.length ≤ 16
  · have e : wI (x.fa0.length : Int) 1 16 = true := by simp [wI]; omega
    refine ⟨fun h => by simp [e] at h, fun _ => ?_⟩
    refine Db (f := Cp) (by omega) ?_ ?_
    · intro j y hy hbb X hX
      refine ⟨y, V9 rfl hy, Da y, Uz y, fun h => ?_, fun h => hX (by simp at h; simp [Cp, h])⟩
      have hn : Cp y = 6 := by simp at h; simp [Cp, h]
      have : Hy x.fa0 = 6 := by
        simp only [Hy, hz, not_true, and_self, if_false]; rw [EL hy (by simp [hn]) hbb, hn]
      simp [DV, ha, this]
    · intro h
      exact rest fun _ => by simp [Hy, hz, h]
  · have e : wI (x.fa0.length : Int) 1 16 = false := by simp [wI]; omega
    have : Hy x.fa0 = 5 := by simp [Hy, hz]
    exact ⟨fun _ => by simp [DV, ha, this], fun h => by simp [e] at h⟩
end Go.Proofs.YtpnpodbihdiegaaGreat
namespace Go.Proofs.YtpnpodbihdiegaaGreat
open Go.RowKit Go.ChangeShapes Go.WideShapes
theorem Nr (x : Int) (j : Nat) (hj : j ≤ 62) (m : Int) (hm : m = 2 ^ j - 1) : bits BinOp.and IntKind.i64 x m = x % 2 ^ j := by
  have hp : (2 : Nat) ^ j ≤ 2 ^ 62 := Nat.pow_le_pow_right (by omega) hj
  have hp1 : 1 ≤ (2 : Nat) ^ j := Nat.one_le_two_pow
  have e0 : (2 : Int) ^ j = ((2 ^ j : Nat) : Int) := by simp
  have e1 : m = ((2 ^ j - 1 : Nat) : Int) := by rw [hm, e0]; omega
  show IntKind.i64.wrap ((BitVec.ofInt 64 x &&& BitVec.ofInt 64 m).toNat : Int) = _
  rw [BitVec.toNat_and, e1, BitVec.ofInt_natCast, BitVec.toNat_ofNat, Nat.mod_eq_of_lt (a := 2 ^ j - 1) (by omega), Nat.and_two_pow_sub_one_eq_mod, BitVec.toNat_ofInt]
  have hd : ((2 ^ j : Nat) : Int) ∣ (2 ^ 64 : Nat) := by
    refine ⟨((2 ^ (64 - j) : Nat) : Int), ?_⟩
    rw [← Int.natCast_mul, ← Nat.pow_add, show j + (64 - j) = 64 from by omega]
  have h2 : ((x % ((2 ^ 64 : Nat) : Int)).toNat % 2 ^ j : Nat) = (x % (2 ^ j : Nat)).toNat := by
    have hx0 : 0 ≤ x % ((2 ^ 64 : Nat) : Int) := Int.emod_nonneg _ (by decide)
    have hx1 : 0 ≤ x % ((2 ^ j : Nat) : Int) := Int.emod_nonneg _ (by omega)
    apply Int.ofNat.inj
    show (((x % ((2 ^ 64 : Nat) : Int)).toNat % 2 ^ j : Nat) : Int) = (((x % (2 ^ j : Nat)).toNat : Nat) : Int)
    rw [Int.natCast_emod, Int.toNat_of_nonneg hx0, Int.toNat_of_nonneg hx1, Int.emod_emod_of_dvd _ hd]
  rw [h2, Int.toNat_of_nonneg (Int.emod_nonneg _ (by omega)), e0, IntKind.wrap_i64]
  have hb0 : 0 ≤ x % ((2 ^ j : Nat) : Int) := Int.emod_nonneg _ (by omega)
  have hb1 : x % ((2 ^ j : Nat) : Int) < ((2 ^ j : Nat) : Int) := Int.emod_lt_of_pos _ (by omega)
  omega
theorem bA (x : Int) (j : Nat) (hj : j ≤ 62) (m : Int) (hm : m = 2 ^ j - 1) : QM .i64 x m = x % 2 ^ j := Nr x j hj m hm
theorem bA1 (x : Int) : QM .i64 x 1 = x % 2 := bA x 1 (by decide) 1 (by decide)
theorem PQ (x : Int) : QM .i64 x 3 = x % 4 := bA x 2 (by decide) 3 (by decide)
theorem bA7 (x : Int) : QM .i64 x 7 = x % 8 := bA x 3 (by decide) 7 (by decide)
theorem bA15 (x : Int) : QM .i64 x 15 = x % 16 := bA x 4 (by decide) 15 (by decide)
theorem bA255 (x : Int) : QM .i64 x 255 = x % 256 := bA x 8 (by decide) 255 (by decide)
theorem LX (x : Int) : QM .i64 x 65535 = x % 65536 := bA x 16 (by decide) 65535 (by decide)
theorem Fz (x : Int) : QM .i64 x 16777215 = x % 16777216 := bA x 24 (by decide) 16777215 (by decide)
theorem Jc {a b : Int} (ha : 0 ≤ a) : a.tmod b = a % b := Int.tmod_eq_emod_of_nonneg ha
theorem Jd {α : Type} {l : List α} {n : Int} (h0 : 0 ≤ n) (h1 : n < l.length) : ∃ x, ix l n x ∧ l[n.toNat]? = some x := by
  have : n.toNat < l.length := by omega
  exact ⟨l[n.toNat], ⟨h0, by simp [this]⟩, by simp [this]⟩
theorem BQ {n : Int} (h : 0 ≤ n ∧ n ≤ 18446744073709551615) : IntKind.u64.wrap n = n := by rw [IntKind.wrap_u64]; omega
theorem FA (l : List Int) : (strOfNums l).size = l.length := by simp [strOfNums, ByteArray.size]
theorem shr8 (x : Int) : QH .i64 x 8 = x / 256 := by
  show x.fdiv (2 ^ 8) = x / 256
  rw [Int.fdiv_eq_ediv_of_nonneg x (by decide)]; rfl
theorem Ac (n : Nat) (hn : n ≤ 4611686018427387904) {B : (Int → Prop) → Int → Prop} {J : Prop} (hB : ∀ j : Nat, j < n → ∀ X : Int → Prop, X (IntKind.i64.wrap ((j : Int) + 1)) → B X (j : Int)) (hJ : J) :
    lp (fun X s => (decide (s < (n : Int)) = true → B X s) ∧ (decide (s < (n : Int)) = false → J)) 0 :=
  Fv n hn (fun _ => True) trivial (fun j hj _ X hX => hB j hj X (hX trivial)) (fun _ => hJ)
theorem ZU {α : Type} {l : List α} {j : Nat} (h : j < l.length) : ix l (j : Int) l[j] := ⟨by omega, by simp [h]⟩
theorem Ak (l : List Int) (hl : l.length ≤ 4611686018427387904) : KA l l true := by
  unfold KA Ji
  simp only [jn]
  refine ⟨fun h => by simp at h, fun _ => ?_⟩
  exact Ac l.length hl (fun j hj X hX => ⟨_, ZU hj, _, ZU hj, fun h => by simp at h, fun _ => hX⟩) trivial
theorem U9 (l : List Q1) (hl : l.length ≤ 4611686018427387904) : ZP l l true := by
  unfold ZP Ke
  simp only [jn]
  refine ⟨fun h => by simp at h, fun _ => ?_⟩
  exact Ac l.length hl (fun j hj X hX => ⟨_, ZU hj, _, ZU hj, fun h => by simp at h, fun _ => hX⟩) trivial
theorem DW (k : Qk) (hl : k.fx.length ≤ 4611686018427387904) (hs : ∀ x ∈ k.fx, x.length ≤ 4611686018427387904) : KN k k true := by
  unfold KN KM
  simp only [jn]
  refine ⟨fun h => by simp at h, fun _ => ?_⟩
  refine Ac k.fx.length hl (fun j hj X hX => ⟨_, ZU hj, _, ZU hj, fun h => by simp at h, fun _ => ?_⟩) trivial
  have hx := hs k.fx[j] (List.getElem_mem hj)
  refine Kq (I := fun n s => ∃ i : Nat, s = (i : Int) ∧ i ≤ k.fx[j].length ∧ n = k.fx[j].length - i) ?_ (k := k.fx[j].length) ⟨0, rfl, by omega, by omega⟩
  rintro n s ⟨i, rfl, hi, hn⟩ Y hY
  refine ⟨_, ZU hj, fun h => ?_, fun h => hX⟩
  have hi2 : i < k.fx[j].length := by simpa using h
  refine ⟨_, ZU hj, _, ZU hi2, _, ZU hj, _, ZU hi2, fun h => by simp at h, fun _ => ?_⟩
  rw [Zr (by omega)]
  exact hY (k.fx[j].length - (i + 1)) _ (by omega) ⟨i + 1, by simp, by omega, rfl⟩
def SmK (k : Qc) : Prop := k.fc.fa9.length ≤ 100000 ∧ k.f4.f5.length ≤ 100000 ∧ k.fa7.fh.length ≤ 100000 ∧ k.ff.fh.length ≤ 100000 ∧ k.fq.fx.length ≤ 100000 ∧ ∀ x ∈ k.fq.fx, x.length ≤ 100000
theorem Dd (k : Qc) (h : SmK k) : JZ k k true := by
  obtain ⟨h1, h2, h3, h4, h5, h6⟩ := h
  unfold JZ UY
  refine ⟨true, fun _ => ?_, true, fun _ => ?_, true, fun _ => ?_, true, fun _ => ?_, true, fun _ => DW _ (by omega) (fun x hx => by have := h6 x hx; omega), by simp⟩
  · exact ⟨true, fun _ => Ak _ (by omega), by simp⟩
  · exact ⟨true, fun _ => Ak _ (by omega), by simp⟩
  · exact ⟨true, fun _ => U9 _ (by omega), by simp⟩
  · exact ⟨true, fun _ => U9 _ (by omega), by simp⟩
def WA (n lo hi : Int) : Int := if lo ≤ n ∧ n ≤ hi then 0 else 5
def De (n m : Int) : Int := if n > m then 11 else 0
def Z6 (x : Qo) (f : Nat) : Int :=
  match f with
  | 0 => Cp x.fb4
  | 1 => Cp x.fi
  | 2 => Hy x.fa0
  | 3 => U8 x.fa.fk x.fa.fg x.fa.fu x.fa.fw
  | 4 => Hz x.f0
  | 5 => De x.fb0.length 64
  | 6 => WA x.f9 1 1048576
  | 7 => WA x.fa6 1 1048576
  | 8 => WA x.fa1 0 3
  | 9 => WA x.fb1 0 15
  | 10 => WA x.fa2 0 3
  | 11 => WA x.fv 0 32
  | 12 => AB x.fo.fk x.fo.fa4 x.fo.fv x.fo.fb9 x.fo.fb8
  | _ => De x.fb3.length 65536
theorem Kz (n lo hi : Int) : Za n lo hi (WA n lo hi) := XY.2 rfl
theorem Ul (l : List Int) (m : Int) : Jg l m (De l.length m) := by
  unfold Jg YP De
  by_cases h : (l.length : Int) > m <;> simp [h]
theorem Df (x : Qo) {f : Nat} (hf : f < 14) : V2 x (f : Int) (Z6 x f) := by
  unfold V2 YQ
  rcases YR hf with rfl | rfl | rfl | rfl | rfl | rfl | rfl | rfl | rfl | rfl | rfl | rfl | rfl | rfl
  · simp; exact Wg x.fb4
  · simp; exact Wg x.fi
  · simp; exact DU x.fa0
  · simp; exact UM x.fa
  · simp; exact Dc x.f0
  · simp; exact Ul x.fb0 64
  · simp; exact Kz x.f9 1 1048576
  · simp; exact Kz x.fa6 1 1048576
  · simp; exact Kz x.fa1 0 3
  · simp; exact Kz x.fb1 0 15
  · simp; exact Kz x.fa2 0 3
  · simp; exact Kz x.fv 0 32
  · simp; exact DT x.fo
  · simp; exact Ul x.fb3 65536
theorem LY {α : Type} {f : α → Int} (h : ∀ x, 0 ≤ f x ∧ f x ≤ 18) (l : List α) : 0 ≤ Bv f l ∧ Bv f l ≤ 18 := by
  induction l with
  | nil => simp [Bv]
  | cons a r ih => (unfold Bv; split; exact h a; exact ih)
theorem OD (x : Qo) (f : Nat) : 0 ≤ Z6 x f ∧ Z6 x f ≤ 18 := by
  have hn : ∀ s, 0 ≤ Cp s ∧ Cp s ≤ 18 := by intro s; unfold Cp; split <;> decide
  have hi : ∀ s, 0 ≤ Fx s ∧ Fx s ≤ 18 := by
      intro s; unfold Fx; repeat' split
      all_goals decide
  have hs : ∀ n m, 0 ≤ De n m ∧ De n m ≤ 18 := by intro n m; unfold De; split <;> decide
  have hr : ∀ n a b, 0 ≤ WA n a b ∧ WA n a b ≤ 18 := by intro n a b; unfold WA; split <;> decide
  have hl := LY hn
  have hl2 := LY hi
  unfold Z6
  split
  · exact hn _
  · exact hn _
  · unfold Hy; (split; decide; exact hl _)
  · unfold U8; repeat' split
    all_goals decide
  · unfold Hz; (split; decide; exact hl2 _)
  · exact hs _ _
  · exact hr _ _ _
  · exact hr _ _ _
  · exact hr _ _ _
  · exact hr _ _ _
  · exact hr _ _ _
  · exact hr _ _ _
  · unfold AB; repeat' split
    all_goals decide
  · exact hs _ _
theorem PR {L : List Int} (h : ∀ e ∈ L, 0 ≤ e ∧ e ≤ 18) : 0 ≤ UP L ∧ UP L ≤ 18 := by
  induction L with
  | nil => simp [UP]
  | cons a r ih => (unfold UP; split; exact h a (by simp); exact ih fun e he => h e (by simp [he]))
def Js (x : Qo) : Int := G8 (UB x) (Z6 x)
theorem OE (x : Qo) : 0 ≤ Js x ∧ Js x ≤ 18 := by
  have h : 0 ≤ UP (A9 (UB x).kind (Z6 x)) ∧ UP (A9 (UB x).kind (Z6 x)) ≤ 18 := by
    refine PR fun e he => ?_
    unfold A9 at he
    obtain ⟨f, _, rfl⟩ := List.mem_map.1 he
    (split; exact OD _ _; decide)
  unfold Js G8
  split
  · decide
  · split
    · exact h
    · split <;> decide
theorem Je (x : Qo) : XA x (Js x) := by
  refine ⟨?_, Z6 x, fun f hf _ => Df x hf, rfl⟩
  have h := OE x
  simp [Lit.wf, IntKind.min, IntKind.max, IntKind.signed, IntKind.bits]; omega
theorem Ms {k : Int} (hk : Kn k) : [ZW k 0, ZW k 1, ZW k 2, ZW k 3, ZW k 4, ZW k 5, ZW k 6, ZW k 7, ZW k 8, ZW k 9, ZW k 10, ZW k 11, ZW k 12, ZW k 13] = [(Ab k).fe0, (Ab k).fe1, (Ab k).fe2, (Ab k).fe3, (Ab k).fe4, (Ab k).fe5, (Ab k).fe6, (Ab k).fe6, (Ab k).fe7, (Ab k).fe8, (Ab k).fe9, (Ab k).fe10, (Ab k).fe11, (Ab k).fe12] := by
  rcases Hh hk with rfl | rfl | rfl | rfl | rfl | rfl | rfl | rfl | rfl | rfl | rfl | rfl | rfl | rfl | rfl | rfl | rfl <;> decide
theorem Ns {x : Qo} (h : ¬ Kn x.fk) : Js x = 8 := by unfold Js G8; rw [if_pos (by simpa [UB] using h)]
theorem Nt {x : Qo} (hk : Kn x.fk) {b0 b1 b2 b3 b4 b5 b6 b7 b8 b9 b10 b11 b12 : Bool} (hu : Ab x.fk = Kt.mk b0 b1 b2 b3 b4 b5 b6 b7 b8 b9 b10 b11 b12) :
    Js x = if UP [if b0 = true then Z6 x 0 else 0, if b1 = true then Z6 x 1 else 0, if b2 = true then Z6 x 2 else 0, if b3 = true then Z6 x 3 else 0, if b4 = true then Z6 x 4 else 0, if b5 = true then Z6 x 5 else 0, if b6 = true then Z6 x 6 else 0, if b6 = true then Z6 x 7 else 0, if b7 = true then Z6 x 8 else 0, if b8 = true then Z6 x 9 else 0, if b9 = true then Z6 x 10 else 0, if b10 = true then Z6 x 11 else 0, if b11 = true then Z6 x 12 else 0, if b12 = true then Z6 x 13 else 0] ≠ 0 then UP [if b0 = true then Z6 x 0 else 0, if b1 = true then Z6 x 1 else 0, if b2 = true then Z6 x 2 else 0, if b3 = true then Z6 x 3 else 0, if b4 = true then Z6 x 4 else 0, if b5 = true then Z6 x 5 else 0, if b6 = true then Z6 x 6 else 0, if b6 = true then Z6 x 7 else 0, if b7 = true then Z6 x 8 else 0, if b8 = true then Z6 x 9 else 0, if b9 = true then Z6 x 10 else 0, if b10 = true then Z6 x 11 else 0, if b11 = true then Z6 x 12 else 0, if b12 = true then Z6 x 13 else 0]
      else if ((b0 || x.fb4.toList == []) && (b1 || x.fi.toList == []) && (b2 || decide (x.fa0.length = 0)) && (b3 || decide (x.fa.fk = 0 ∧ x.fa.fg = 0 ∧ x.fa.fu = 0 ∧ x.fa.fw = 0)) && (b4 || decide (x.f0.length = 0)) && (b5 || decide (x.fb0.length = 0)) && (b6 || decide (x.f9 = 0)) && (b6 || decide (x.fa6 = 0)) && (b7 || decide (x.fa1 = 0)) && (b8 || decide (x.fb1 = 0)) && (b9 || decide (x.fa2 = 0)) && (b10 || decide (x.fv = 0)) && (b11 || decide (x.fo.fk = 0 ∧ x.fo.fa4.toList = [] ∧ x.fo.fv = 0 ∧ x.fo.fb9 = 0 ∧ x.fo.fb8 = 0)) && (b12 || decide (x.fb3.length = 0))) = true then 0 else 18 := by
  have h := Ms hk
  rw [hu] at h
  simp only [List.cons.injEq, and_true] at h
  obtain ⟨m0, m1, m2, m3, m4, m5, m6, m7, m8, m9, m10, m11, m12, m13⟩ := h
  have r14 : List.range 14 = [0, 1, 2, 3, 4, 5, 6, 7, 8, 9, 10, 11, 12, 13] := by decide
  have e : A9 x.fk (Z6 x) = [if b0 = true then Z6 x 0 else 0, if b1 = true then Z6 x 1 else 0, if b2 = true then Z6 x 2 else 0, if b3 = true then Z6 x 3 else 0, if b4 = true then Z6 x 4 else 0, if b5 = true then Z6 x 5 else 0, if b6 = true then Z6 x 6 else 0, if b6 = true then Z6 x 7 else 0, if b7 = true then Z6 x 8 else 0, if b8 = true then Z6 x 9 else 0, if b9 = true then Z6 x 10 else 0, if b10 = true then Z6 x 11 else 0, if b11 = true then Z6 x 12 else 0, if b12 = true then Z6 x 13 else 0] := by
    unfold A9; rw [r14]
    simp only [List.map_cons, List.map_nil, m0, m1, m2, m3, m4, m5, m6, m7, m8, m9, m10, m11, m12, m13]
  have z : ((List.range 14).all fun f => ZW x.fk f || CF (UB x) f) = ((b0 || x.fb4.toList == []) && (b1 || x.fi.toList == []) && (b2 || decide (x.fa0.length = 0)) && (b3 || decide (x.fa.fk = 0 ∧ x.fa.fg = 0 ∧ x.fa.fu = 0 ∧ x.fa.fw = 0)) && (b4 || decide (x.f0.length = 0)) && (b5 || decide (x.fb0.length = 0)) && (b6 || decide (x.f9 = 0)) && (b6 || decide (x.fa6 = 0)) && (b7 || decide (x.fa1 = 0)) && (b8 || decide (x.fb1 = 0)) && (b9 || decide (x.fa2 = 0)) && (b10 || decide (x.fv = 0)) && (b11 || decide (x.fo.fk = 0 ∧ x.fo.fa4.toList = [] ∧ x.fo.fv = 0 ∧ x.fo.fb9 = 0 ∧ x.fo.fb8 = 0)) && (b12 || decide (x.fb3.length = 0))) := by
    rw [r14]
    simp only [List.all_cons, List.all_nil, Bool.and_true, m0, m1, m2, m3, m4, m5, m6, m7, m8, m9, m10, m11, m12, m13, Bool.and_assoc]
    simp only [CF, UB, List.length_map]
    rfl
  unfold Js G8
  rw [if_neg (by simpa [UB] using hk)]
  change (if UP (A9 x.fk (Z6 x)) ≠ 0 then UP (A9 x.fk (Z6 x)) else if (List.range 14).all (fun f => ZW x.fk f || CF (UB x) f) = true then 0 else 18) = _
  rw [e, z]
theorem Nu (L : List Int) (t : Int) : UP (L ++ [t]) = if UP L ≠ 0 then UP L else t := by
  induction L with
  | nil => by_cases h : t = 0 <;> simp [UP, h]
  | cons a r ih =>
    by_cases h : a ≠ 0
    · simp [UP, h]
    · have h0 : a = 0 := by simpa using h
      simp only [List.cons_append, UP, h0, ne_eq, not_true, if_false]; exact ih
theorem Yd {V a : Int} {r : List Int} (h : V = UP (a :: r)) (h0 : a = 0) : V = UP r := by rw [h, UP, if_neg (by simp [h0])]
theorem Ir {V a : Int} {r : List Int} (h : V = UP (a :: r)) (h0 : a ≠ 0) : V = a := by rw [h, UP, if_pos h0]
theorem UA {V a b : Int} {r : List Int} (h : V = UP (a :: r)) (h0 : a = b) (hb : b ≠ 0) : V = b := by rw [Ir h (by rw [h0]; exact hb), h0]
def bz (b : Bool) (c : Int) : Int := if b = true then c else 0
theorem Gc {b : Bool} {c : Int} (h : b = true) : bz b c = c := by rw [bz, if_pos h]
theorem OF {b : Bool} {c : Int} (h : b = false) : bz b c = 0 := by rw [bz, if_neg (by simp [h])]
theorem Nv {b w : Bool} {c : Int} (h : ¬ bz b (if w = true then 0 else c) = 0) : bz b (if w = true then 0 else c) = c := by cases b <;> cases w <;> simp_all [bz]
theorem P0 {b0 b1 n0 n1 : Bool} {c : Int} (hc : c ≠ 0) (h : (b0 && !n0 || b1 && !n1) = true) (h0 : bz b0 (if n0 = true then 0 else c) = 0) : bz b1 (if n1 = true then 0 else c) = c := by
  cases b0 <;> cases b1 <;> cases n0 <;> cases n1 <;> simp_all [bz]
theorem P1 {b w : Bool} {c : Int} (h : (b && !w) = false) : bz b (if w = true then 0 else c) = 0 := by cases b <;> cases w <;> simp_all [bz]
theorem d_or4 {b0 b1 b2 b3 n0 n1 n2 n3 : Bool} {c : Int} (hc : c ≠ 0) (h : (b0 && !n0 || b1 && !n1 || b2 && !n2 || b3 && !n3) = true) (h0 : bz b0 (if n0 = true then 0 else c) = 0) (h1 : bz b1 (if n1 = true then 0 else c) = 0) (h2 : bz b2 (if n2 = true then 0 else c) = 0) : bz b3 (if n3 = true then 0 else c) = c := by
  cases b0 <;> cases n0 <;> cases b1 <;> cases n1 <;> cases b2 <;> cases n2 <;> simp_all [bz]
def Nw (x : Qo) (u : Kt) : Int := if ((u.fe0 || x.fb4.toList == []) && (u.fe1 || x.fi.toList == []) && (u.fe2 || decide (x.fa0.length = 0)) && (u.fe3 || decide (x.fa.fk = 0 ∧ x.fa.fg = 0 ∧ x.fa.fu = 0 ∧ x.fa.fw = 0)) && (u.fe4 || decide (x.f0.length = 0)) && (u.fe5 || decide (x.fb0.length = 0)) && (u.fe6 || decide (x.f9 = 0)) && (u.fe6 || decide (x.fa6 = 0)) && (u.fe7 || decide (x.fa1 = 0)) && (u.fe8 || decide (x.fb1 = 0)) && (u.fe9 || decide (x.fa2 = 0)) && (u.fe10 || decide (x.fv = 0)) && (u.fe11 || decide (x.fo.fk = 0 ∧ x.fo.fa4.toList = [] ∧ x.fo.fv = 0 ∧ x.fo.fb9 = 0 ∧ x.fo.fb8 = 0)) && (u.fe12 || decide (x.fb3.length = 0))) = true then 0 else 18
theorem OG {x : Qo} (hk : Kn x.fk) {b0 b1 b2 b3 b4 b5 b6 b7 b8 b9 b10 b11 b12 : Bool} (hu : Ab x.fk = Kt.mk b0 b1 b2 b3 b4 b5 b6 b7 b8 b9 b10 b11 b12) :
    Js x = UP [bz b0 (Z6 x 0), bz b1 (Z6 x 1), bz b2 (Z6 x 2), bz b3 (Z6 x 3), bz b4 (Z6 x 4), bz b5 (Z6 x 5), bz b6 (Z6 x 6), bz b6 (Z6 x 7), bz b7 (Z6 x 8), bz b8 (Z6 x 9), bz b9 (Z6 x 10), bz b10 (Z6 x 11), bz b11 (Z6 x 12), bz b12 (Z6 x 13), Nw x (Kt.mk b0 b1 b2 b3 b4 b5 b6 b7 b8 b9 b10 b11 b12)] :=
  (Nt hk hu).trans (Nu [bz b0 (Z6 x 0), bz b1 (Z6 x 1), bz b2 (Z6 x 2), bz b3 (Z6 x 3), bz b4 (Z6 x 4), bz b5 (Z6 x 5), bz b6 (Z6 x 6), bz b6 (Z6 x 7), bz b7 (Z6 x 8), bz b8 (Z6 x 9), bz b9 (Z6 x 10), bz b10 (Z6 x 11), bz b11 (Z6 x 12), bz b12 (Z6 x 13)] _).symm
theorem Vs (x : Qo) : JA x (Js x) := by
  unfold JA Wa
  simp only [U7, exists_eq_left, jn, JO, Jr]
  by_cases hk : Kn x.fk
  case neg =>
    have hw : wI x.fk 1 17 = false := by simpa [wI, Kn] using hk
    rw [hw]
    exact ⟨fun _ => Ns hk, fun h => by simp at h⟩
  have hw : wI x.fk 1 17 = true := by simpa [wI, Kn] using hk
  refine ⟨fun h => by simp [hw] at h, fun _ => ?_⟩
  refine ⟨Ab x.fk, Hj _, Da x.fb4, fun _ => Uz _, Da x.fi, fun _ => Uz _, ?_⟩
  rcases hU : Ab x.fk with ⟨b0, b1, b2, b3, b4, b5, b6, b7, b8, b9, b10, b11, b12⟩
  have hv := OG hk hU
  generalize Js x = V at hv ⊢
  simp only
  have l1 : Jt x b2 false (bz b2 (Z6 x 2)) := by
    have := BP x b2 false
    have e : DV x b2 false = bz b2 (Z6 x 2) := by unfold DV bz; show _ = if b2 = true then Hy x.fa0 else 0; grind
    rwa [e] at this
  have l2 : Jt x false b4 (bz b4 (Z6 x 4)) := by
    have := BP x false b4
    have e : DV x false b4 = bz b4 (Z6 x 4) := by unfold DV bz; show _ = if b4 = true then Hz x.f0 else 0; grind
    rwa [e] at this
  have p3 := VL x.fa
  have p12 := AC x.fo
  change Zo x.fa (Z6 x 3) at p3
  change Ka x.fo (Z6 x 12) at p12
  refine ⟨fun h => ?_, fun h => ?_⟩
  · by_cases h0 : bz b0 (Z6 x 0) = 0
    · exact UA (Yd hv h0) (P0 (c := 6) (by decide) h h0) (by decide)
    · exact UA hv (Nv (c := 6) h0) (by decide)
  have hh := Bool.or_eq_false_iff.1 h
  have z0 : bz b0 (Z6 x 0) = 0 := P1 (c := 6) hh.1
  have z1 : bz b1 (Z6 x 1) = 0 := P1 (c := 6) hh.2
  replace hv := Yd (Yd hv z0) z1
  clear h hh z0 z1
  refine ⟨_, l1, fun h => Ir hv (by simpa using h), fun h => ?_⟩
  replace hv := Yd hv (by simpa using h)
  clear h l1
  suffices rest : V = UP [bz b4 (Z6 x 4), bz b5 (Z6 x 5), bz b6 (Z6 x 6), bz b6 (Z6 x 7), bz b7 (Z6 x 8), bz b8 (Z6 x 9), bz b9 (Z6 x 10), bz b10 (Z6 x 11), bz b11 (Z6 x 12), bz b12 (Z6 x 13), Nw x (Kt.mk b0 b1 b2 b3 b4 b5 b6 b7 b8 b9 b10 b11 b12)] → _ by
    refine ⟨fun hb => ⟨_, p3, fun h => ?_, fun h => rest (Yd hv ?_)⟩, fun hb => rest (Yd hv (OF hb))⟩
    · rw [Ir hv (by rw [Gc hb]; simpa using h), Gc hb]
    · rw [Gc hb]; simpa using h
  clear hv p3
  intro hv
  refine ⟨_, l2, fun h => Ir hv (by simpa using h), fun h => ?_⟩
  replace hv := Yd hv (by simpa using h)
  clear h l2
  have e5 : Z6 x 5 = if (x.fb0.length : Int) > 64 then 11 else 0 := rfl
  refine ⟨fun h => ?_, fun h => ?_⟩
  · have h := Bool.and_eq_true_iff.1 h
    exact UA hv (by rw [Gc h.1, e5, if_pos (by simpa using h.2)]) (by decide)
  have z5 : bz b5 (Z6 x 5) = 0 := by
    cases b5
    · exact OF rfl
    · rw [Gc rfl, e5, if_neg (by simpa using h)]
  replace hv := Yd hv z5
  clear h z5 e5
  have er : ∀ n lo hi, WA n lo hi = if wI n lo hi = true then 0 else 5 := by intro n lo hi; unfold WA wI; simp
  have e6 : Z6 x 6 = if wI x.f9 1 1048576 = true then 0 else 5 := er _ _ _
  have e7 : Z6 x 7 = if wI x.fa6 1 1048576 = true then 0 else 5 := er _ _ _
  have e8 : Z6 x 8 = if wI x.fa1 0 3 = true then 0 else 5 := er _ _ _
  have e9 : Z6 x 9 = if wI x.fb1 0 15 = true then 0 else 5 := er _ _ _
  have e10 : Z6 x 10 = if wI x.fa2 0 3 = true then 0 else 5 := er _ _ _
  have e11 : Z6 x 11 = if wI x.fv 0 32 = true then 0 else 5 := er _ _ _
  clear er
  rw [e6, e7, e8, e9, e10, e11] at hv
  clear e6 e7 e8 e9 e10 e11
  generalize wI x.f9 1 1048576 = w6 at *
  generalize wI x.fa6 1 1048576 = w7 at *
  generalize wI x.fa1 0 3 = w8 at *
  generalize wI x.fb1 0 15 = w9 at *
  generalize wI x.fa2 0 3 = w10 at *
  generalize wI x.fv 0 32 = w11 at *
  refine ⟨w6, fun _ => rfl, w7, fun _ => rfl, fun h => ?_, fun h => ?_⟩
  · have h' : (b6 && !w6 || b6 && !w7) = true := by rw [← Bool.and_or_distrib_left]; exact h
    by_cases h0 : bz b6 (if w6 = true then 0 else 5) = 0
    · exact UA (Yd hv h0) (P0 (by decide) h' h0) (by decide)
    · exact UA hv (Nv h0) (by decide)
  have hh : (b6 && !w6) = false ∧ (b6 && !w7) = false := by rw [← Bool.or_eq_false_iff, ← Bool.and_or_distrib_left]; exact h
  replace hv := Yd (Yd hv (P1 hh.1)) (P1 hh.2)
  clear h hh
  refine ⟨w8, fun _ => rfl, w9, fun _ => rfl, w10, fun _ => rfl, w11, fun _ => rfl, fun h => ?_, fun h => ?_⟩
  · by_cases h0 : bz b7 (if w8 = true then 0 else 5) = 0
    · replace hv := Yd hv h0
      by_cases h1 : bz b8 (if w9 = true then 0 else 5) = 0
      · replace hv := Yd hv h1
        by_cases h2 : bz b9 (if w10 = true then 0 else 5) = 0
        · exact UA (Yd hv h2) (d_or4 (by decide) h h0 h1 h2) (by decide)
        · exact UA hv (Nv h2) (by decide)
      · exact UA hv (Nv h1) (by decide)
    · exact UA hv (Nv h0) (by decide)
  have k1 := Bool.or_eq_false_iff.1 h
  have k2 := Bool.or_eq_false_iff.1 k1.1
  have k3 := Bool.or_eq_false_iff.1 k2.1
  replace hv := Yd (Yd (Yd (Yd hv (P1 k3.1)) (P1 k3.2)) (P1 k2.2)) (P1 k1.2)
  clear h k1 k2 k3
  suffices rest : V = UP [bz b12 (Z6 x 13), Nw x (Kt.mk b0 b1 b2 b3 b4 b5 b6 b7 b8 b9 b10 b11 b12)] → _ by
    refine ⟨fun hb => ⟨_, p12, fun h => ?_, fun h => rest (Yd hv ?_)⟩, fun hb => rest (Yd hv (OF hb))⟩
    · rw [Ir hv (by rw [Gc hb]; simpa using h), Gc hb]
    · rw [Gc hb]; simpa using h
  clear hv p12
  intro hv
  have e13 : Z6 x 13 = if (x.fb3.length : Int) > 65536 then 11 else 0 := rfl
  refine ⟨fun h => ?_, fun h => ?_⟩
  · have h := Bool.and_eq_true_iff.1 h
    exact UA hv (by rw [Gc h.1, e13, if_pos (by simpa using h.2)]) (by decide)
  have z13 : bz b12 (Z6 x 13) = 0 := by
    cases b12
    · exact OF rfl
    · rw [Gc rfl, e13, if_neg (by simpa using h)]
  replace hv := Yd hv z13
  clear h z13 e13
  have hv2 : V = Nw x (Kt.mk b0 b1 b2 b3 b4 b5 b6 b7 b8 b9 b10 b11 b12) := by
    rw [hv]; unfold UP; split <;> simp_all [UP]
  subst hv2
  unfold Nw
  simp only
  have n0 : (ByteArray.empty).toList = [] := Yn
  have lg : ∀ n : Nat, decide ((n : Int) > 0) = !decide (n = 0) := by
    intro n; by_cases h : n = 0
    · subst h; rfl
    · have : (n : Int) > 0 := by omega
      simp [h]; omega
  have ne : ∀ n : Int, (n != 0) = !decide (n = 0) := fun n => rfl
  have ee : ∀ n : Int, (n == 0) = decide (n = 0) := fun n => rfl
  have el : ∀ s : ByteArray, (s.toList == []) = decide (s.toList = []) := by intro s; by_cases h : s.toList = [] <;> simp [h]
  simp only [Yn, n0, lg, ne, ee, el, Bool.and_true, ← Bool.decide_and]
  have pp : decide (x.f9 = 0) = decide (x.f9 = 0) := rfl
  generalize decide (x.f9 = 0) = a6
  generalize decide (x.fa6 = 0) = a7
  generalize decide (x.fb4.toList = []) = a0
  generalize decide (x.fi.toList = []) = a1
  generalize decide (x.fa0.length = 0) = a2
  generalize decide (x.f0.length = 0) = a4
  generalize decide (x.fb0.length = 0) = a5
  generalize decide (x.fa1 = 0) = a8
  generalize decide (x.fb1 = 0) = a9
  generalize decide (x.fa2 = 0) = a10
  generalize decide (x.fv = 0) = a11
  generalize decide (x.fb3.length = 0) = a13
  generalize decide (x.fa.fk = 0 ∧ x.fa.fg = 0 ∧ x.fa.fu = 0 ∧ x.fa.fw = 0) = a3
  generalize decide (x.fo.fk = 0 ∧ x.fo.fa4.toList = [] ∧ x.fo.fv = 0 ∧ x.fo.fb9 = 0 ∧ x.fo.fb8 = 0) = a12
  have key : ((((((((((((!b0 && !a0 || !b1 && !a1) || !b2 && !a2) || !b3 && !a3) || !b4 && !a4) || !b5 && !a5) || !b6 && (!a6 || !a7)) || !b7 && !a8) || !b8 && !a9) || !b9 && !a10) || !b10 && !a11) || !b11 && !a12) || !b12 && !a13) = !((b0 || a0) && (b1 || a1) && (b2 || a2) && (b3 || a3) && (b4 || a4) && (b5 || a5) && (b6 || a6) && (b6 || a7) && (b7 || a8) && (b8 || a9) && (b9 || a10) && (b10 || a11) && (b11 || a12) && (b12 || a13)) := by
    cases b6 <;> simp [Bool.not_and, Bool.not_or, Bool.or_assoc]
  refine ⟨fun h => if_neg fun h2 => ?_, fun h => if_pos ?_⟩
  · rw [key, h2] at h; cases h
  · rw [key, Bool.not_eq_false'] at h; exact h
theorem Lk (l : List ByteArray) (h : l.length ≤ 1000000) : Zj l l := ⟨fun e => e, by simp only [List.length_nil]; omega, rfl⟩
theorem PS (l : List (List ByteArray)) (h : l.length ≤ 1000000) : ZY l l := ⟨fun e => e, by simp only [List.length_nil]; omega, rfl⟩
theorem PT (l : List Qh) (h : l.length ≤ 1000000) : ZK l l := ⟨fun e => e, by simp only [List.length_nil]; omega, rfl⟩
theorem Ll (l : List Int) (h : l.length ≤ 1000000) : ZF l l := ⟨fun e => e, by simp only [List.length_nil]; omega, rfl⟩
theorem Nx (l : List Int) (h : l.length ≤ 1000000) : ZX l l := ⟨fun e => e, by simp only [List.length_nil]; omega, rfl⟩
theorem P3 (l : List Q1) (h : l.length ≤ 1000000) : Zk l l := ⟨fun e => e, by simp only [List.length_nil]; omega, rfl⟩
theorem PU (l : List Qx) (h : l.length ≤ 1000000) : Zl l l := ⟨fun e => e, by simp only [List.length_nil]; omega, rfl⟩
theorem q_cur (l : List QI) (h : l.length ≤ 1000000) : Zx l l := ⟨fun e => e, by simp only [List.length_nil]; omega, rfl⟩
def Mt (o : Qo) : Prop := o.fa0.length ≤ 1000000 ∧ o.f0.length ≤ 1000000 ∧ o.fb0.length ≤ 1000000 ∧ o.fb3.length ≤ 1000000
theorem Cq (o : Qo) (h : Mt o) : Jn o o :=
  ⟨_, Lk _ h.1, _, PT _ h.2.1, _, Ll _ h.2.2.1, _, Ll _ h.2.2.2, rfl⟩
theorem Is {α : Type} {l : List α} {i : Nat} (h : i < l.length) : List.set l (Int.toNat (i : Int)) l[i] = l := by
  rw [Int.toNat_natCast]; exact List.set_getElem_self h
theorem Ba (k : Qc) (h : SmK k) : ZN k k := by
  obtain ⟨h1, h2, h3, h4, h5, h6⟩ := h
  unfold ZN Vq
  simp only [jn]
  refine ⟨_, Nx _ (by omega), _, Nx _ (by omega), _, P3 _ (by omega), _, P3 _ (by omega), _, PS _ (by omega), ?_⟩
  refine Kq (I := fun n t => ∃ i : Nat, i ≤ k.fq.fx.length ∧ n = k.fq.fx.length - i ∧ t = (k.fq.fx, (i : Int), k.fc.fa9, k.f4.f5, k.fa7.fh, k.ff.fh)) ?_ (k := k.fq.fx.length) ⟨0, by omega, rfl, rfl⟩
  rintro n t ⟨i, hi, hn, rfl⟩ X hX
  refine ⟨fun c => ?_, fun c => rfl⟩
  have hi2 : i < k.fq.fx.length := by simpa using c
  have hx := h6 k.fq.fx[i] (List.getElem_mem hi2)
  refine ⟨_, ZU hi2, _, Lk _ (by omega), _, ZU hi2, ?_⟩
  refine hX (k.fq.fx.length - (i + 1)) _ (by omega) ⟨i + 1, by omega, rfl, ?_⟩
  simp only
  rw [Is hi2, Zr (by omega)]; rfl
def P4 (m : Qy) : Prop := m.fc1.length ≤ 1000000 ∧ m.fb3.length ≤ 1000000 ∧ SmK m.fj ∧ SmK m.fi
theorem Ey (m : Qy) (h : P4 m) : KZ m m :=
  ⟨_, Nx _ h.1, _, Ll _ h.2.1, _, Ba _ h.2.2.1, _, Ba _ h.2.2.2, rfl⟩
def Mu (s : Q5) : Prop := Mt s.fOp ∧ P4 s.fm ∧ s.f7.length ≤ 1000000 ∧ s.fa5.length ≤ 1000000 ∧ ∀ x ∈ s.f7, x.fa0.length ≤ 1000000
theorem FB (l : List Q5) (hl : l.length ≤ 1000000) (hs : ∀ s ∈ l, Mu s) : Jh l l := by
  unfold Jh YU
  simp only [jn]
  refine Kq (I := fun k s => ∃ j : Nat, j ≤ l.length ∧ k = l.length - j ∧ s = (l.take j, (j : Int))) ?_ (k := l.length) ⟨0, by omega, rfl, rfl⟩
  rintro k s ⟨j, hj, hk, rfl⟩ X hX
  refine ⟨fun c => ?_, fun c => ?_⟩
  · have hj2 : j < l.length := by simpa using c
    obtain ⟨s, hs1⟩ : ∃ s, l[j] = s := ⟨_, rfl⟩
    have hix : ix l (j : Int) s := hs1 ▸ ZU hj2
    obtain ⟨b1, b2, b3, b4, b5⟩ := hs s (hs1 ▸ List.getElem_mem hj2)
    refine ⟨s, hix, _, Cq _ b1, _, Ey _ b2, _, PU _ b3, _, q_cur _ b4, ?_⟩
    refine Kq (I := fun n t => ∃ i : Nat, i ≤ s.f7.length ∧ n = s.f7.length - i ∧ t = (l.take j, s.f7, (i : Int), s.fOp.fa0, s.fOp.f0, s.fOp.fb0, s.fOp.fb3, s.fm.fc1, s.fm.fj.fc.fa9, s.fm.fj.f4.f5, s.fm.fj.fa7.fh, s.fm.fj.ff.fh, s.fm.fj.fq.fx, s.fm.fi.fc.fa9, s.fm.fi.f4.f5, s.fm.fi.fa7.fh, s.fm.fi.ff.fh, s.fm.fi.fq.fx, s.fm.fb3, s.fa5)) ?_ (k := s.f7.length) ⟨0, by omega, rfl, rfl⟩
    rintro n t ⟨i, hi, hn, rfl⟩ Y hY
    refine ⟨fun c2 => ?_, fun c2 => ⟨?_, ?_⟩⟩
    · have hi2 : i < s.f7.length := by simpa using c2
      have hx := b5 s.f7[i] (List.getElem_mem hi2)
      refine ⟨_, ZU hi2, _, Lk _ hx, _, ZU hi2, ?_⟩
      refine hY (s.f7.length - (i + 1)) _ (by omega) ⟨i + 1, by omega, rfl, ?_⟩
      have e := Is hi2
      have e2 : List.set s.f7 (Int.toNat (i : Int)) ⟨s.f7[i].fc5, s.f7[i].fc0, s.f7[i].fa0⟩ = s.f7 := e
      simp only
      rw [e2, Zr (by omega)]; rfl
    · simp only [List.length_take, List.length_cons, List.length_nil]; omega
    · refine hX (l.length - (j + 1)) _ (by omega) ⟨j + 1, by omega, rfl, ?_⟩
      rw [Zr (by omega), List.take_succ_eq_append_getElem hj2, hs1]; rfl
  · have hj2 : j = l.length := by simp at c; omega
    subst hj2
    simp
theorem Hk (x : Qo) (h1 : x.fa0.length ≤ 4611686018427387904) (h2 : x.f0.length ≤ 4611686018427387904) : YV x x true := by
  unfold YV Aa
  simp only [jn]
  refine ⟨fun c => by simp at c, fun _ => ?_⟩
  exact Ac x.fa0.length h1 (fun j hj X hX => ⟨_, ZU hj, _, ZU hj, fun h => by simp at h, fun _ => hX⟩)
    (Ac x.f0.length h2 (fun j hj X hX => ⟨_, ZU hj, _, ZU hj, fun h => by simp at h, fun _ => hX⟩) trivial)
theorem Bw (m : Qy) (h : P4 m) : Jq m m true := by
  have h1 := h.1
  unfold Jq XX
  simp only [jn]
  refine ⟨fun c => by simp at c, fun _ => ?_⟩
  exact Ac m.fc1.length (by omega) (fun j hj X hX => ⟨_, ZU hj, _, ZU hj, fun h => by simp at h, fun _ => hX⟩)
    ⟨true, fun _ => Dd _ h.2.2.1, true, fun _ => Dd _ h.2.2.2, by simp⟩
theorem By (l : List QI) (h : l.length ≤ 1000000) : Jp l l true := by
  unfold Jp XW
  simp only [jn]
  refine ⟨fun c => by simp at c, fun _ => ?_⟩
  exact Ac l.length (by omega) (fun j hj X hX => ⟨_, ZU hj, _, ZU hj, fun h => by simp at h, fun _ => hX⟩) trivial
theorem AD (l : List Qx) (h : l.length ≤ 1000000) (hs : ∀ x ∈ l, x.fa0.length ≤ 1000000) : KJ l l true := by
  unfold KJ Xg
  simp only [jn]
  refine ⟨fun c => by simp at c, fun _ => ?_⟩
  refine Ac l.length (by omega) (fun j hj X hX => ⟨_, ZU hj, _, ZU hj, _, fun _ => ZU hj, _, fun _ => ZU hj, _, fun _ => ZU hj, _, fun _ => ZU hj, fun h => by simp at h, fun _ => ?_⟩) trivial
  have hx := hs l[j] (List.getElem_mem hj)
  refine Kq (I := fun n s => ∃ i : Nat, s = (i : Int) ∧ i ≤ l[j].fa0.length ∧ n = l[j].fa0.length - i) ?_ (k := l[j].fa0.length) ⟨0, rfl, by omega, by omega⟩
  rintro n s ⟨i, rfl, hi, hn⟩ Y hY
  refine ⟨_, ZU hj, fun h => ?_, fun h => hX⟩
  have hi2 : i < l[j].fa0.length := by simpa using h
  refine ⟨_, ZU hj, _, ZU hi2, _, ZU hj, _, ZU hi2, fun h => by simp at h, fun _ => ?_⟩
  rw [Zr (by omega)]
  exact hY (l[j].fa0.length - (i + 1)) _ (by omega) ⟨i + 1, by simp, by omega, rfl⟩
theorem Bb (l : List Q5) (h : l.length ≤ 1000000) (hs : ∀ s ∈ l, Mu s) : Jb l l true := by
  unfold Jb XB
  simp only [jn]
  refine ⟨fun c => by simp at c, fun _ => ?_⟩
  refine Ac l.length (by omega) (fun j hj X hX => ?_) trivial
  obtain ⟨b1, b2, b3, b4, b5⟩ := hs l[j] (List.getElem_mem hj)
  have c1 := b1.1; have c2 := b1.2.1
  exact ⟨_, ZU hj, _, ZU hj, _, fun _ => ZU hj, _, fun _ => ZU hj, _, fun _ => ZU hj, _, fun _ => ZU hj, true, fun _ => Hk _ (by omega) (by omega), _, fun _ => ZU hj, _, fun _ => ZU hj, true, fun _ => Bw _ b2, _, fun _ => ZU hj, _, fun _ => ZU hj, true, fun _ => AD _ b3 b5, _, fun _ => ZU hj, _, fun _ => ZU hj, true, fun _ => By _ b4, fun h => by simp at h, fun _ => hX⟩
def zM : Qy := (Qy.mk (0) (0) (false) ([] : (List Int)) (0) (Qc.mk (Q9.mk (0) (0) (0) (0)) (Qp.mk (0) (0) (false)) (Qa.mk (0) (0) (0) ([] : (List Int)) (false)) (Qj.mk (0) (0) ([] : (List Int))) (Qs.mk (0) (0) ([] : (List Q1)) (false)) (Qe.mk (0) (0) (0) ([] : (List Q1)) (false)) (Qk.mk (0) (0) (0) ([] : (List (List ByteArray))) (false))) (Qc.mk (Q9.mk (0) (0) (0) (0)) (Qp.mk (0) (0) (false)) (Qa.mk (0) (0) (0) ([] : (List Int)) (false)) (Qj.mk (0) (0) ([] : (List Int))) (Qs.mk (0) (0) ([] : (List Q1)) (false)) (Qe.mk (0) (0) (0) ([] : (List Q1)) (false)) (Qk.mk (0) (0) (0) ([] : (List (List ByteArray))) (false))) (0) (0) (0) (0) (Z8.mk (0) (0)) ([] : (List Int)) (false))
def zO : Qo := (Qo.mk (0) (ByteArray.empty) (ByteArray.empty) ([] : (List ByteArray)) (Q9.mk (0) (0) (0) (0)) ([] : (List Qh)) ([] : (List Int)) (0) (0) (0) (0) (0) (0) (Qu.mk (0) (ByteArray.empty) (0) (0) (0)) ([] : (List Int)))
def NY : Qo := (Qo.mk (4) (ByteArray.empty) (ByteArray.empty) ([] : (List ByteArray)) (Q9.mk (0) (0) (0) (0)) ([] : (List Qh)) ([] : (List Int)) (0) (0) (0) (0) (0) (0) (Qu.mk (0) (ByteArray.empty) (0) (0) (0)) ([] : (List Int)))
def snp4 : List Qx := List.replicate (Int.toNat (4)) (Qx.mk (false) (0) ([] : (List ByteArray)))
def cur4 : List QI := List.replicate (Int.toNat (4)) (QI.mk (false) (0) (ByteArray.empty) (0))
def s0 : Q5 := ⟨false, zO, zM, 0, snp4, cur4⟩
def s1 : Q5 := ⟨true, NY, zM, 7, snp4, cur4⟩
theorem Ny : Mu s0 := by
  refine ⟨⟨by decide, by decide, by decide, by decide⟩, ⟨by decide, by decide, ⟨by decide, by decide, by decide, by decide, by decide, fun x hx => by cases hx⟩, by decide, by decide, by decide, by decide, by decide, fun x hx => by cases hx⟩, by decide, by decide, fun x hx => ?_⟩
  have : x = Qx.mk (false) (0) ([] : (List ByteArray)) := List.eq_of_mem_replicate hx
  rw [this]; decide
theorem sm_s1 : Mu s1 := by
  refine ⟨⟨by decide, by decide, by decide, by decide⟩, ⟨by decide, by decide, ⟨by decide, by decide, by decide, by decide, by decide, fun x hx => by cases hx⟩, by decide, by decide, by decide, by decide, by decide, fun x hx => by cases hx⟩, by decide, by decide, fun x hx => ?_⟩
  have : x = Qx.mk (false) (0) ([] : (List ByteArray)) := List.eq_of_mem_replicate hx
  rw [this]; decide
def PW (n : Int) : List Q5 × Int := if n < 1 ∨ n > 64 then ([], 5) else (List.replicate n.toNat s0, 0)
theorem FC (n : Int) : Vr n (PW n) := by
  unfold Vr U6
  simp only [jn, Jr]
  refine ⟨fun c => ?_, fun c => ?_⟩
  · have h : n < 1 ∨ n > 64 := by simpa using c
    unfold PW; rw [if_pos h]
  have h : ¬ (n < 1 ∨ n > 64) := by simp at c; omega
  unfold PW; rw [if_neg h]
  refine Kq (I := fun k s => ∃ j : Nat, (j : Int) ≤ n ∧ k = (n - j).toNat ∧ s = (List.replicate j s0, (j : Int))) ?_ (k := n.toNat) ⟨0, by omega, by simp, rfl⟩
  rintro k s ⟨j, hj, hk, rfl⟩ X hX
  refine ⟨fun c => ?_, fun c => ?_⟩
  · have hj2 : (j : Int) < n := by simpa using c
    refine ⟨by omega, by omega, by simp only [List.length_replicate, List.length_cons, List.length_nil]; omega, ?_⟩
    refine hX (n - ((j + 1 : Nat) : Int)).toNat _ (by omega) ⟨j + 1, by omega, rfl, ?_⟩
    rw [Zr (by omega), List.replicate_succ']; rfl
  · have hj2 : (j : Int) = n := by simp at c; omega
    rw [← hj2]; simp
theorem m4 (C : Nat → Int) : UP (A9 4 C) = 0 := rfl
theorem Nz : Js NY = 0 := by
  have e : (ByteArray.empty).toList = [] := Yn
  unfold Js G8
  rw [if_neg (by unfold Kn UB NY; simp), if_neg (by show ¬ UP (A9 4 _) ≠ 0; rw [m4]; simp), if_pos]
  simp [List.range, List.range.loop, CF, UB, NY, e]
theorem NA {a b : Q5} (ha : Mu a) (hb : Mu b) : ∀ s ∈ [a, b], Mu s := by
  intro s hs
  simp only [List.mem_cons, List.not_mem_nil, or_false] at hs
  rcases hs with rfl | rfl
  · exact ha
  · exact hb
theorem PX : Mt NY := ⟨by decide, by decide, by decide, by decide⟩
theorem NB : Zd [s0, s0] 1 NY 7 ([s0, s1], 0) := by
  unfold Zd Ko
  simp only [Jr]
  refine ⟨fun c => by simp at c, fun _ => ⟨0, Nz ▸ Je NY, fun c => by simp at c, fun _ => ⟨s0, ⟨by decide, rfl⟩, fun c => (by cases c), fun _ => ⟨[s0, s0], FB _ (by decide) (NA Ny Ny), s0, ⟨by decide, rfl⟩, NY, Cq _ PX, ?_⟩⟩⟩⟩
  rfl
theorem NC : Zd [s0, s1] 1 NY 8 ([], 12) := by
  unfold Zd Ko
  simp only [Jr]
  exact ⟨fun c => by simp at c, fun _ => ⟨0, Nz ▸ Je NY, fun c => by simp at c, fun _ => ⟨s1, ⟨by decide, rfl⟩, fun _ => trivial, fun c => (by cases c)⟩⟩⟩
theorem PY : JN [s0, s1] [1] := by
  unfold JN Ym
  simp only [jn]
  refine Kq (I := fun k s => (k = 2 ∧ s = ([], 0)) ∨ (k = 1 ∧ s = ([], 1)) ∨ (k = 0 ∧ s = ([1], 2))) ?_ (k := 2) (.inl ⟨rfl, rfl⟩)
  rintro k s (⟨rfl, rfl⟩ | ⟨rfl, rfl⟩ | ⟨rfl, rfl⟩) X hX
  · exact ⟨fun _ => ⟨s0, ⟨by decide, rfl⟩, fun c => (by cases c), fun _ => hX 1 _ (by omega) (.inr (.inl ⟨rfl, rfl⟩))⟩, fun c => by simp at c⟩
  · exact ⟨fun _ => ⟨s1, ⟨by decide, rfl⟩, fun _ => ⟨by decide, hX 0 _ (by omega) (.inr (.inr ⟨rfl, rfl⟩))⟩, fun c => (by cases c)⟩, fun c => by simp at c⟩
  · exact ⟨fun c => by simp at c, fun _ => rfl⟩
theorem PZ : XC [s0, s1] 1 ([s0, s0], 0) := by
  unfold XC U5
  simp only [Jr]
  refine ⟨fun c => by simp at c, fun _ => ⟨s1, ⟨by decide, rfl⟩, fun c => (by cases c), fun _ => ⟨[s0, s1], FB _ (by decide) (NA Ny sm_s1), s1, ⟨by decide, rfl⟩, ?_⟩⟩⟩
  rfl
theorem Gd : Yc true := by
  unfold Yc Uy
  have hn : Vr 2 ([s0, s0], 0) := FC 2
  exact ⟨_, hn, _, NB, _, NC, _, PY, _, PZ, 1, fun _ => ⟨by decide, rfl⟩, s0, fun _ => ⟨by decide, rfl⟩, s1, fun _ => ⟨by decide, rfl⟩, rfl⟩
section
variable {E : En} {N : Nat} {P : Program} {st : St} {cx : Cx} {a : Act} {w : World}
def Own (cx : Cx) (st : St) (g : Nat) : Prop := ∃ b q, st.h b ≠ none ∧ cx.ι b = some (g, q)
theorem ZV.base (hr : ZV E N cx st a w) : ZV ⟨w, cx.A, Own cx st, cx.ι⟩ N cx st a w :=
  ⟨hr.defers, hr.size, hr.fr, hr.bl, hr.inj, fun b g o hb hi => ⟨(hr.own b g o hb hi).1, .inr ⟨b, o, hb, hi⟩⟩, fun g hg => ⟨(hr.A g hg).1, .inl hg⟩, fun g hg => hg, fun _ _ _ => rfl, Nat.le_refl _, rfl, rfl, rfl, hr.hN, fun _ _ => rfl⟩
def Bk.mu : Bk → Bool
  | .row _ _ mu => mu
  | _ => true
def St.mu (st : St) : Bool := st.H.all fun x => match x.2 with
  | none => true
  | some bk => bk.mu
theorem mu_of {b : QZ} {bk : Bk} (h : st.mu = true) (hb : st.h b = some bk) : bk.mu = true := by
  unfold St.h at hb
  cases hl : Uc st.H b with
  | none => rw [hl] at hb; cases hb
  | some y =>
    rw [hl] at hb
    simp only [Option.getD_some] at hb
    subst hb
    exact List.all_eq_true.1 h (b, some bk) (XI hl)
theorem ND (hr : ZV E N cx st a w) (hm : st.mu = true) {g : Nat} (h : Own cx st g) : ¬ cx.A g := by
  obtain ⟨b, q, hb, hi⟩ := h
  obtain ⟨bk, hbk⟩ := Option.ne_none_iff_exists'.1 hb
  have hR := hr.bl b bk hbk
  have hmu := mu_of hm hbk
  cases bk with
  | row e rows mu =>
    obtain ⟨_, _, h2⟩ := hR
    rw [hi] at h2
    obtain ⟨_, c, el, fz, capR, _, h5, _⟩ := h2
    exact (h5 hmu).2
  | box cs =>
    obtain ⟨g', o, c, el, h1, _, h3, _⟩ := hR
    rw [hi] at h1; cases h1; exact h3
  | map ks =>
    obtain ⟨g', es, clk, h1, _, h3, _⟩ := hR
    rw [hi] at h1; cases h1; exact h3
structure Lv (X : Nat → Prop) (cx : Cx) (st : St) (w : World) (cx' : Cx) (st' : St) (w' : World) : Prop where
  sz : w.heap.size ≤ w'.heap.size
  A : ∀ g, cx.A g → cx'.A g
  A' : ∀ g, cx'.A g → cx.A g ∨ w.heap.size ≤ g ∨ Own cx st g
  kept : ∀ g, g < w.heap.size → ¬ Own cx st g → ¬ X g → w'.heap[g]? = w.heap[g]?
  own : ∀ g, Own cx' st' g → w.heap.size ≤ g ∨ Own cx st g
  os : w'.os = w.os
  tape : w'.tape = w.tape
  output : w'.output = w.output
  keepA : ∀ g, cx.A g → g < w.heap.size → w'.heap[g]? = w.heap[g]?
theorem Dg {cx' : Cx} {st' : St} {a' : Act} {w' : World} (hr : ZV E N cx st a w) (hm : st.mu = true) (hr' : ZV ⟨w, cx.A, Own cx st, cx.ι⟩ N cx' st' a' w') : Lv (fun _ => False) cx st w cx' st' w' :=
  ⟨hr'.sz, fun g hg => hr'.A0 g hg, fun g hg => (hr'.A g hg).2, fun g hg h1 _ => hr'.kept g hg h1, fun g ⟨b, q, hb, hi⟩ => (hr'.own b g q hb hi).2, hr'.os, hr'.tape, hr'.output, fun g hg hl => hr'.kept g hl fun ho => ND hr hm ho hg⟩
theorem LZ : Lv (fun _ => False) cx st w cx st { w with drawn := w.drawn + 1 } :=
  ⟨Nat.le_refl _, fun _ h => h, fun _ h => .inl h, fun _ _ _ _ => rfl, fun _ h => .inr h, rfl, rfl, rfl, fun _ _ _ => rfl⟩
theorem j_aw {c : Code} {Q : Exit → St → Prop} (h : ∀ E, AW E N P c Q st) (hr : ZV E N cx st a w) (hm : st.mu = true) : c.wp P (fun e a' w' => ∃ st' cx' E', Q e st' ∧ ZV E' N cx' st' a' w' ∧ Lv (fun _ => False) cx st w cx' st' w') a w := by
  refine wp_mono (h _ cx a w hr.base) ?_
  rintro e a' w' ⟨st', cx', hq, hr'⟩
  exact ⟨st', cx', _, hq, hr', Dg hr hm hr'⟩
def Ua (w : World) (A : Nat → Prop) (g e : Nat) (rows : List (List PV)) : Prop :=
  0 < e ∧ (∀ r ∈ rows, r.length = e) ∧ ∃ c el capR, w.heap[g]? = some (.cells c el (0, 0)) ∧ c.size = capR * e ∧ rows.length ≤ capR ∧ capR ≤ maxLen ∧ ∀ i r k p, rows[i]? = some r → r[k]? = some p → ∃ cv, c[i * e + k]? = some cv ∧ RP w A p cv
theorem Ua.keeps {w' : World} {A A' : Nat → Prop} {g e : Nat} {rows : List (List PV)} (h : Ua w A g e rows) (hA : ∀ g, A g → A' g) (hk : J0 A w w') (hg : w'.heap[g]? = w.heap[g]?) : Ua w' A' g e rows := by
  obtain ⟨h0, h1, c, el, capR, h2, h3, h4, h5, h6⟩ := h
  exact ⟨h0, h1, c, el, capR, by rw [hg]; exact h2, h3, h4, h5, fun i r k p hi hk' => let ⟨cv, hc, hp⟩ := h6 i r k p hi hk'; ⟨cv, hc, hp.keeps hA hk⟩⟩
theorem Ua.lt {A : Nat → Prop} {g e : Nat} {rows : List (List PV)} (h : Ua w A g e rows) : g < w.heap.size := by
  obtain ⟨_, _, c, el, capR, h2, _⟩ := h
  exact (Array.getElem?_eq_some_iff.1 h2).1
def Jf : QZ := (65537, 0)
theorem NE {e : Nat} {rows : List (List PV)} (b' : QZ) : (⟨st.fr, (Jf, some (.row e rows true)) :: st.H⟩ : St).h b' = if b' = Jf then some (.row e rows true) else st.h b' := C1 Jf b' (some (.row e rows true)) st.fr st.H
theorem ZV.add (hr : ZV E N cx st a w) {e g : Nat} {rows : List (List PV)} (hf : W3 Jf st = true) (hg : Ua w cx.A g e rows) (hnA : ¬ cx.A g) (hno : ¬ Own cx st g) :
    ZV ⟨w, cx.A, fun x => Own cx st x ∨ x = g, (cx.upd Jf (some (g, 0))).ι⟩ N (cx.upd Jf (some (g, 0))) ⟨st.fr, (Jf, some (.row e rows true)) :: st.H⟩ a w := by
  have hf := Wm hf
  have hh := NE (st := st) (e := e) (rows := rows)
  have hcmp : ∀ b', b' ≠ Jf → IJ cx w st.h (cx.upd Jf (some (g, 0))) w (⟨st.fr, (Jf, some (.row e rows true)) :: st.H⟩ : St).h b' := by
    intro b' hne bk' hb
    rw [hh, if_neg hne] at hb
    exact ⟨bk', hb, rfl, Nat.le_refl _, by simp [Cx.upd, hne], fun g o c el fz _ h => ⟨c, el, fz, h, fun _ => rfl⟩⟩
  have hk : J0 cx.A w w := J0.refl _ _
  refine ⟨hr.defers, hr.size, fun s' => ?_, fun b' bk hb => ?_, fun b1 b2 g1 o g2 o' h1 h2 h3 h4 hne => ?_, fun b1 g1 o h1 h2 => ?_, fun x hx => ⟨(hr.A x hx).1, .inl hx⟩, fun x hx => hx, fun _ _ _ => rfl, Nat.le_refl _, rfl, rfl, rfl, hr.hN, fun _ _ => rfl⟩
  · refine RT.tr (cx := cx) (fun _ h => h) hk (fun b' hb' => hcmp b' ?_) (hr.fr s')
    rintro rfl
    exact hf.2.1 s' hb'
  · rw [hh] at hb
    by_cases h : b' = Jf
    · rw [if_pos h] at hb
      cases hb
      subst h
      obtain ⟨h0, h1, c, el, capR, h2, h3, h4, h5, h6⟩ := hg
      refine ⟨h0, h1, ?_⟩
      simp only [Cx.upd, if_true]
      exact ⟨trivial, c, el, (0, 0), capR, h2, fun _ => ⟨rfl, hnA⟩, (fun h => by cases h), h3, h4, h5, h6⟩
    · rw [if_neg h] at hb
      refine RB.tr (cx := cx) (fun _ h => h) hk (fun b2 hb2 => hcmp b2 ?_) (by simp [Cx.upd, h]) (fun g o _ => ⟨rfl, fun h => h⟩) (hr.bl b' bk hb)
      rintro rfl
      exact hf.2.2 b' bk hb hb2
  · rw [hh] at h1 h2
    simp only [Cx.upd] at h3 h4
    by_cases e1 : b1 = Jf <;> by_cases e2 : b2 = Jf
    · exact absurd (e1.trans e2.symm) hne
    · rw [if_pos e1] at h3; rw [if_neg e2] at h2 h4
      cases h3
      rintro rfl
      exact hno ⟨b2, o', h2, h4⟩
    · rw [if_neg e1] at h1 h3; rw [if_pos e2] at h4
      cases h4
      rintro rfl
      exact hno ⟨b1, o, h1, h3⟩
    · rw [if_neg e1] at h1 h3; rw [if_neg e2] at h2 h4
      exact hr.inj b1 b2 g1 o g2 o' h1 h2 h3 h4 hne
  · rw [hh] at h1
    simp only [Cx.upd] at h2
    by_cases e1 : b1 = Jf
    · rw [if_pos e1] at h2; cases h2
      exact ⟨hg.lt, .inr (.inr rfl)⟩
    · rw [if_neg e1] at h1 h2
      exact ⟨(hr.own b1 g1 o h1 h2).1, .inr (.inl ⟨b1, o, h1, h2⟩)⟩
theorem ZV.del {e : Nat} {rows : List (List PV)} (hr : ZV E N cx ⟨st.fr, (Jf, some (.row e rows true)) :: st.H⟩ a w) (hf : W3 Jf st = true) : ZV E N cx st a w ∧ ∀ g q, cx.ι Jf = some (g, q) → Ua w cx.A g e rows ∧ ¬ cx.A g ∧ ¬ Own cx st g := by
  have hf := Wm hf
  have hh := NE (st := st) (e := e) (rows := rows)
  have hcmp : ∀ b', b' ≠ Jf → IJ cx w (⟨st.fr, (Jf, some (.row e rows true)) :: st.H⟩ : St).h cx w st.h b' := by
    intro b' hne bk' hb
    exact ⟨bk', by rw [hh, if_neg hne]; exact hb, rfl, Nat.le_refl _, rfl, fun g o c el fz _ h => ⟨c, el, fz, h, fun _ => rfl⟩⟩
  have hk : J0 cx.A w w := J0.refl _ _
  have hne : ∀ b', st.h b' ≠ none → b' ≠ Jf := by
    rintro b' hb rfl
    exact hb hf.1
  have hup : ∀ b', st.h b' ≠ none → (⟨st.fr, (Jf, some (.row e rows true)) :: st.H⟩ : St).h b' ≠ none := fun b' hb => by rw [hh, if_neg (hne b' hb)]; exact hb
  refine ⟨⟨hr.defers, hr.size, fun s' => ?_, fun b' bk hb => ?_, fun b1 b2 g1 o g2 o' h1 h2 h3 h4 hn => hr.inj b1 b2 g1 o g2 o' (hup _ h1) (hup _ h2) h3 h4 hn, fun b1 g1 o h1 h2 => hr.own b1 g1 o (hup _ h1) h2, hr.A, hr.A0, hr.kept, hr.sz, hr.os, hr.tape, hr.output, hr.hN, hr.pin⟩, fun g q hi => ?_⟩
  · refine RT.tr (cx := cx) (fun _ h => h) hk (fun b' hb' => hcmp b' ?_) (hr.fr s')
    rintro rfl
    exact hf.2.1 s' hb'
  · have hnb := hne b' (by rw [hb]; simp)
    refine RB.tr (cx := cx) (fun _ h => h) hk (fun b2 hb2 => hcmp b2 ?_) rfl (fun g o _ => ⟨rfl, fun h => h⟩) (hr.bl b' bk (by rw [hh, if_neg hnb]; exact hb))
    rintro rfl
    exact hf.2.2 b' bk hb hb2
  · have hR := hr.bl Jf _ (by rw [hh, if_pos rfl])
    obtain ⟨h0, h1, h2⟩ := hR
    rw [hi] at h2
    obtain ⟨rfl, c, el, fz, capR, h4, h5, h6, h7, h8, h9, h10⟩ := h2
    obtain ⟨rfl, hnA⟩ := h5 rfl
    refine ⟨⟨h0, h1, c, el, capR, h4, h7, h8, h9, h10⟩, hnA, ?_⟩
    rintro ⟨b, q, hb, hb2⟩
    exact hr.inj b Jf g q g 0 (hup b hb) (by rw [hh, if_pos rfl]; simp) hb2 hi (hne b hb) rfl
theorem RC.le {h h' : QZ → Option Bk} (hle : ∀ b bk, h' b = some bk → h b = some bk) {c : CV} {v : Value} (hr : RC cx w h c v) : RC cx w h' c v := by
  cases c with
  | any => trivial
  | p x => exact hr
  | ptr b i k => exact fun bk hb => hr bk (hle b bk hb)
  | sl b off n => exact fun bk hb => hr bk (hle b bk hb)
  | ep r k => exact hr
  | mp b => exact fun bk hb => hr bk (hle b bk hb)
theorem RL.le {h h' : QZ → Option Bk} (hle : ∀ b bk, h' b = some bk → h b = some bk) {cs : List CV} {vs : Array Value} (hr : RL cx w h cs vs) : RL cx w h' cs vs :=
  ⟨hr.1, fun i c hc => let ⟨u, hu, h1, hx⟩ := hr.2 i c hc; ⟨u, hu, h1, hx.le hle⟩⟩
theorem NU.le {h h' : QZ → Option Bk} (hle : ∀ b bk, h' b = some bk → h b = some bk) {t : TV} {v : Value} (hr : NU cx w h t v) : NU cx w h' t v := by
  cases t with
  | c x => exact ⟨hr.1, hr.2.le hle⟩
  | agg cs => obtain ⟨vs, h1, h2⟩ := hr; exact ⟨vs, h1, h2.le hle⟩
  | tup ts => exact hr
theorem RT.le {h h' : QZ → Option Bk} (hle : ∀ b bk, h' b = some bk → h b = some bk) {t : TV} {v : Value} (hr : RT cx w h t v) : RT cx w h' t v := by
  cases t with
  | c x => exact ⟨hr.1, hr.2.le hle⟩
  | agg cs => obtain ⟨vs, h1, h2⟩ := hr; exact ⟨vs, h1, h2.le hle⟩
  | tup ts => obtain ⟨vs, h1, h2, h3⟩ := hr; exact ⟨vs, h1, h2, fun i t ht => let ⟨u, hu, hx⟩ := h3 i t ht; ⟨u, hu, hx.le hle⟩⟩
theorem RB.le {h h' : QZ → Option Bk} (hle : ∀ b bk, h' b = some bk → h b = some bk) {b : QZ} {bk : Bk} (hr : RB cx w h b bk) : RB cx w h' b bk := by
  cases bk with
  | row e rows mu => exact hr
  | box cs => obtain ⟨g, o, c, el, h1, h2, h3, h4, h5⟩ := hr; exact ⟨g, o, c, el, h1, h2, h3, h4, fun k x hx => let ⟨cv, hc, h1, hp⟩ := h5 k x hx; ⟨cv, hc, h1, hp.le hle⟩⟩
  | map ks => exact hr
def R0 : List (Nat × TV) → List (Nat × TV) → Prop
  | [], _ => True
  | x :: r, fr => ZC fr x.1 = some x.2 ∧ R0 r fr
def OH : List (QZ × Option Bk) → List (QZ × Option Bk) → Prop
  | [], _ => True
  | x :: r, H => Uc H x.1 = some x.2 ∧ OH r H
theorem NF {fr' fr : List (Nat × TV)} (h : R0 fr' fr) : ∀ x ∈ fr', ZC fr x.1 = some x.2 := by
  induction fr' with
  | nil => simp
  | cons y r ih =>
    intro x hx
    rcases List.mem_cons.1 hx with rfl | hx
    · exact h.1
    · exact ih h.2 x hx
theorem NG {H' H : List (QZ × Option Bk)} (h : OH H' H) : ∀ x ∈ H', Uc H x.1 = some x.2 := by
  induction H' with
  | nil => simp
  | cons y r ih =>
    intro x hx
    rcases List.mem_cons.1 hx with rfl | hx
    · exact h.1
    · exact ih h.2 x hx
theorem OI {fr fr' : List (Nat × TV)} {H' H : List (QZ × Option Bk)} (h : OH H' H) : ∀ b bk, (⟨fr', H'⟩ : St).h b = some bk → (⟨fr, H⟩ : St).h b = some bk := by
  intro b bk hb
  unfold St.h at hb ⊢
  simp only at hb ⊢
  cases hl : Uc H' b with
  | none => rw [hl] at hb; cases hb
  | some y =>
    rw [hl] at hb
    rw [NG h _ (XI hl)]
    exact hb
theorem ZV.cut {fr fr' : List (Nat × TV)} {H H' : List (QZ × Option Bk)} (hr : ZV E N cx ⟨fr, H⟩ a w) (hF : R0 fr' fr) (hH : OH H' H) : ZV E N cx ⟨fr', H'⟩ a w := by
  have hle := OI (fr := fr) (fr' := fr') hH
  have hup : ∀ b', (⟨fr', H'⟩ : St).h b' ≠ none → (⟨fr, H⟩ : St).h b' ≠ none := fun b' hb => by
    obtain ⟨bk, hbk⟩ := Option.ne_none_iff_exists'.1 hb
    rw [hle b' bk hbk]; simp
  refine ⟨hr.defers, hr.size, fun s => ?_, fun b bk hb => (hr.bl b bk (hle b bk hb)).le hle, fun b1 b2 g o g' o' h1 h2 => hr.inj b1 b2 g o g' o' (hup b1 h1) (hup b2 h2), fun b g o h1 => hr.own b g o (hup b h1), hr.A, hr.A0, hr.kept, hr.sz, hr.os, hr.tape, hr.output, hr.hN, hr.pin⟩
  have : (⟨fr', H'⟩ : St).g s = (ZC fr' s).getD (.c .any) := rfl
  rw [this]
  cases hl : ZC fr' s with
  | none => exact ⟨.inl rfl, trivial⟩
  | some t =>
    have h1 := NF hF _ (Bi hl)
    have h2 := hr.fr s
    rw [show (⟨fr, H⟩ : St).g s = (ZC fr s).getD (.c .any) from rfl, h1] at h2
    exact h2.le hle
theorem M0 (hr : ZV E N cx st a w) {s e m : Nat} {b : QZ} {rows : List (List PV)} (hs : st.g s = .c (.sl b 0 m)) (hb : st.h b = some (.row e rows true)) (hm : 0 < rows.length) (hm2 : rows.length ≤ m) :
    ∃ g c, a.tmps.getD s undef = .slice (some ⟨g, 0, none⟩) m c ∧ m ≤ c ∧ c ≤ maxLen ∧ cx.ι b = some (g, 0) ∧ Ua w cx.A g e rows ∧ ¬ cx.A g := by
  have h1 := (hr.fr s)
  rw [hs] at h1
  obtain ⟨a', cap, h2, h3, h4, h5, h6⟩ := h1.2 _ hb
  obtain ⟨h7, h8, h9⟩ := hr.bl b _ hb
  rcases h6 with h6 | ⟨g, c, el, fz, h10, h11, h12, h13⟩
  · omega
  · rw [h10] at h9
    obtain ⟨-, c', el', fz', capR, h14, h15, h16, h17, h18, h19, h20⟩ := h9
    obtain ⟨rfl, hnA⟩ := h15 rfl
    refine ⟨g, cap, by rw [h2, h11, Nat.zero_mul], h3, h4, h10, ⟨h7, h8, c', el', capR, h14, h17, h18, h19, h20⟩, hnA⟩
theorem P5 {c : Code} {Q : Exit → St → Prop} {e g : Nat} {rows : List (List PV)} (h : ∀ E, E.pin Jf = some (g, 0) → AW E N P c Q ⟨st.fr, (Jf, some (.row e rows true)) :: st.H⟩) (hr : ZV E N cx st a w) (hm : st.mu = true) (hf : W3 Jf st = true) (hg : Ua w cx.A g e rows) (hnA : ¬ cx.A g) (hno : ¬ Own cx st g)
    (hQ : ∀ ex st', Q ex st' → ∃ st2 rows', st' = ⟨st2.fr, (Jf, some (.row e rows' true)) :: st2.H⟩ ∧ W3 Jf st2 = true) :
    c.wp P (fun ex a' w' => ∃ st2 cx' E' rows', Q ex ⟨st2.fr, (Jf, some (.row e rows' true)) :: st2.H⟩ ∧ ZV E' N cx' st2 a' w' ∧ Lv (· = g) cx st w cx' st2 w' ∧ Ua w' cx'.A g e rows' ∧ ¬ cx'.A g ∧ ¬ Own cx' st2 g) a w := by
  refine wp_mono (h ⟨w, cx.A, fun x => Own cx st x ∨ x = g, (cx.upd Jf (some (g, 0))).ι⟩ (by simp [Cx.upd]) _ a w (hr.add hf hg hnA hno)) ?_
  rintro ex a' w' ⟨st', cx', hq, hr'⟩
  obtain ⟨st2, rows', rfl, hf2⟩ := hQ ex st' hq
  obtain ⟨hr2, hrow⟩ := hr'.del hf2
  have hi : cx'.ι Jf = some (g, 0) := (hr'.pin Jf (.inr (Nat.le_refl _))).trans (by simp [Cx.upd])
  obtain ⟨h1, h2, h3⟩ := hrow g 0 hi
  refine ⟨st2, cx', _, rows', hq, hr2, ⟨hr'.sz, fun x hx => hr'.A0 x hx, fun x hx => ?_, fun x hx hn hx2 => hr'.kept x hx (fun h => h.elim hn hx2), fun x hx => ?_, hr'.os, hr'.tape, hr'.output, fun x hx hl => hr'.kept x hl ?_⟩, h1, h2, h3⟩
  · rcases (hr'.A x hx).2 with h4 | h4 | h4 | h4
    · exact .inl h4
    · exact .inr (.inl h4)
    · exact .inr (.inr h4)
    · exact absurd (h4 ▸ hx) h2
  · obtain ⟨b, q, hb, hb2⟩ := hx
    rcases (hr2.own b x q hb hb2).2 with h4 | h4 | h4
    · exact .inl h4
    · exact .inr h4
    · exact absurd ⟨b, q, hb, h4 ▸ hb2⟩ h3
  · rintro (h4 | rfl)
    · exact ND hr hm h4 hx
    · exact hnA hx
end
set_option maxRecDepth 100000
set_option maxHeartbeats 4000000
structure Qg where
  fb7 : Bool
  fOp : Qo
  fm : Qy
  fa3 : Int
  f7 : Value
  fa5 : Value
def Z9 (x : Qg) : List PV := [.v (.bool (x.fb7)), .v (.int .i64 (x.fOp.fk)), .v (.string (x.fOp.fb4)), .v (.string (x.fOp.fi)), .l 1 (List.map eS (x.fOp.fa0)), .v (.int .i64 (x.fOp.fa.fk)), .v (.int .i64 (x.fOp.fa.fg)), .v (.int .i64 (x.fOp.fa.fu)), .v (.int .u64 (x.fOp.fa.fw)), .l 2 (List.map QJ (x.fOp.f0)), .l 1 (List.map (eI .u8) (x.fOp.fb0)), .v (.int .i64 (x.fOp.f9)), .v (.int .i64 (x.fOp.fa6)), .v (.int .i64 (x.fOp.fa1)), .v (.int .i64 (x.fOp.fb1)), .v (.int .i64 (x.fOp.fa2)), .v (.int .i64 (x.fOp.fv)), .v (.int .i64 (x.fOp.fo.fk)), .v (.string (x.fOp.fo.fa4)), .v (.int .i64 (x.fOp.fo.fv)), .v (.int .i64 (x.fOp.fo.fb9)), .v (.int .i64 (x.fOp.fo.fb8)), .l 1 (List.map (eI .u8) (x.fOp.fb3)), .v (.int .i64 (x.fm.fc6)), .v (.int .i64 (x.fm.fc8)), .v (.bool (x.fm.fc3)), .l 1 (List.map (eI .i64) (x.fm.fc1)), .v (.int .i64 (x.fm.fb5)), .v (.int .i64 (x.fm.fj.fa.fk)), .v (.int .i64 (x.fm.fj.fa.fg)), .v (.int .i64 (x.fm.fj.fa.fu)), .v (.int .u64 (x.fm.fj.fa.fw)), .v (.int .i64 (x.fm.fj.fy.fp)), .v (.int .i64 (x.fm.fj.fy.f0)), .v (.bool (x.fm.fj.fy.fb)), .v (.int .i64 (x.fm.fj.fc.fu)), .v (.int .i64 (x.fm.fj.fc.fg)), .v (.int .u64 (x.fm.fj.fc.fw)), .l 1 (List.map (eI .i64) (x.fm.fj.fc.fa9)), .v (.bool (x.fm.fj.fc.fb)), .v (.int .i64 (x.fm.fj.f4.f8)), .v (.int .u64 (x.fm.fj.f4.fw)), .l 1 (List.map (eI .i64) (x.fm.fj.f4.f5)), .v (.int .i64 (x.fm.fj.fa7.fg)), .v (.int .i64 (x.fm.fj.fa7.fp)), .l 3 (List.map Q8 (x.fm.fj.fa7.fh)), .v (.bool (x.fm.fj.fa7.fb)), .v (.int .i64 (x.fm.fj.ff.fg)), .v (.int .i64 (x.fm.fj.ff.fp)), .v (.int .i64 (x.fm.fj.ff.fb6)), .l 3 (List.map Q8 (x.fm.fj.ff.fh)), .v (.bool (x.fm.fj.ff.fb)), .v (.int .i64 (x.fm.fj.fq.fg)), .v (.int .i64 (x.fm.fj.fq.fp)), .v (.int .i64 (x.fm.fj.fq.fb2)), .l 1 (List.map (eL 1 eS) (x.fm.fj.fq.fx)), .v (.bool (x.fm.fj.fq.fb)), .v (.int .i64 (x.fm.fi.fa.fk)), .v (.int .i64 (x.fm.fi.fa.fg)), .v (.int .i64 (x.fm.fi.fa.fu)), .v (.int .u64 (x.fm.fi.fa.fw)), .v (.int .i64 (x.fm.fi.fy.fp)), .v (.int .i64 (x.fm.fi.fy.f0)), .v (.bool (x.fm.fi.fy.fb)), .v (.int .i64 (x.fm.fi.fc.fu)), .v (.int .i64 (x.fm.fi.fc.fg)), .v (.int .u64 (x.fm.fi.fc.fw)), .l 1 (List.map (eI .i64) (x.fm.fi.fc.fa9)), .v (.bool (x.fm.fi.fc.fb)), .v (.int .i64 (x.fm.fi.f4.f8)), .v (.int .u64 (x.fm.fi.f4.fw)), .l 1 (List.map (eI .i64) (x.fm.fi.f4.f5)), .v (.int .i64 (x.fm.fi.fa7.fg)), .v (.int .i64 (x.fm.fi.fa7.fp)), .l 3 (List.map Q8 (x.fm.fi.fa7.fh)), .v (.bool (x.fm.fi.fa7.fb)), .v (.int .i64 (x.fm.fi.ff.fg)), .v (.int .i64 (x.fm.fi.ff.fp)), .v (.int .i64 (x.fm.fi.ff.fb6)), .l 3 (List.map Q8 (x.fm.fi.ff.fh)), .v (.bool (x.fm.fi.ff.fb)), .v (.int .i64 (x.fm.fi.fq.fg)), .v (.int .i64 (x.fm.fi.fq.fp)), .v (.int .i64 (x.fm.fi.fq.fb2)), .l 1 (List.map (eL 1 eS) (x.fm.fi.fq.fx)), .v (.bool (x.fm.fi.fq.fb)), .v (.int .i64 (x.fm.fc7)), .v (.int .i64 (x.fm.fd0)), .v (.int .i64 (x.fm.fa1)), .v (.int .i64 (x.fm.fa2)), .v (.int .i64 (x.fm.fAt.fb5)), .v (.int .i64 (x.fm.fAt.fd1)), .l 1 (List.map (eI .u8) (x.fm.fb3)), .v (.bool (x.fm.fc4)), .v (.int .i64 (x.fa3)), .o (x.f7), .o (x.fa5)]
def JP (a0 : (List Qg)) (a1 : Int) (a2 : Qo) (a3 : Int) (Q : ((List Qg) × Int) → Prop) : Prop :=
 ((((bif decide ((a1) < (0)) then true else decide ((a1) ≥ (((a0).length : Int))))) = true → Q (([] : (List Qg)), (5))) ∧ (((bif decide ((a1) < (0)) then true else decide ((a1) ≥ (((a0).length : Int))))) = false → ∃ (v3 : Int), JA a2 v3 ∧ (((((v3) != (0))) = true → Q (([] : (List Qg)), (v3))) ∧ ((((v3) != (0))) = false → ∃ (v5 : Qg), ix (a0) (a1) v5 ∧ (((v5.fb7) = true → Q (([] : (List Qg)), (12))) ∧ ((v5.fb7) = false → ((a0).length * 1088 ≤ 140737488355328) ∧ ∃ (v7 : Qg), ix (a0) (a1) v7 ∧ Q ((List.set (List.set (List.set (List.set (a0) (Int.toNat (a1)) ((Qg.mk (true) v7.fOp v7.fm (v7.fa3) (v7.f7) (v7.fa5)))) (Int.toNat (a1)) ((Qg.mk (true) a2 v7.fm (v7.fa3) (v7.f7) (v7.fa5)))) (Int.toNat (a1)) ((Qg.mk (true) a2 (Qy.mk (0) (0) (false) (([] : (List Int))) (0) (Qc.mk (Q9.mk (0) (0) (0) (0)) (Qp.mk (0) (0) (false)) (Qa.mk (0) (0) (0) (([] : (List Int))) (false)) (Qj.mk (0) (0) (([] : (List Int)))) (Qs.mk (0) (0) (([] : (List Q1))) (false)) (Qe.mk (0) (0) (0) (([] : (List Q1))) (false)) (Qk.mk (0) (0) (0) (([] : (List (List ByteArray)))) (false))) (Qc.mk (Q9.mk (0) (0) (0) (0)) (Qp.mk (0) (0) (false)) (Qa.mk (0) (0) (0) (([] : (List Int))) (false)) (Qj.mk (0) (0) (([] : (List Int)))) (Qs.mk (0) (0) (([] : (List Q1))) (false)) (Qe.mk (0) (0) (0) (([] : (List Q1))) (false)) (Qk.mk (0) (0) (0) (([] : (List (List ByteArray)))) (false))) (0) (0) (0) (0) (Z8.mk (0) (0)) (([] : (List Int))) (false)) (v7.fa3) (v7.f7) (v7.fa5)))) (Int.toNat (a1)) ((Qg.mk (true) a2 (Qy.mk (0) (0) (false) (([] : (List Int))) (0) (Qc.mk (Q9.mk (0) (0) (0) (0)) (Qp.mk (0) (0) (false)) (Qa.mk (0) (0) (0) (([] : (List Int))) (false)) (Qj.mk (0) (0) (([] : (List Int)))) (Qs.mk (0) (0) (([] : (List Q1))) (false)) (Qe.mk (0) (0) (0) (([] : (List Q1))) (false)) (Qk.mk (0) (0) (0) (([] : (List (List ByteArray)))) (false))) (Qc.mk (Q9.mk (0) (0) (0) (0)) (Qp.mk (0) (0) (false)) (Qa.mk (0) (0) (0) (([] : (List Int))) (false)) (Qj.mk (0) (0) (([] : (List Int)))) (Qs.mk (0) (0) (([] : (List Q1))) (false)) (Qe.mk (0) (0) (0) (([] : (List Q1))) (false)) (Qk.mk (0) (0) (0) (([] : (List (List ByteArray)))) (false))) (0) (0) (0) (0) (Z8.mk (0) (0)) (([] : (List Int))) (false)) (a3) (v7.f7) (v7.fa5)))), (0))))))))
def KL (a0 : (List Qg)) (a1 : Int) (a2 : Qo) (a3 : Int) (r : (List Qg) × Int) : Prop := JP a0 a1 a2 a3 fun x => r = x
theorem YY {a0 : (List Qg)} {a1 : Int} {a2 : Qo} {a3 : Int} {r : (List Qg) × Int} (h : KL a0 a1 a2 a3 r) : Qq Tryz.prog 10 [.c (.l 97 (List.map Z9 (a0))), .c (.v (.int .i64 (a1))), .agg (Zf a2), .c (.v (.int .i64 (a3)))] [.c (.own 97 (List.map Z9 (r.1))), .c (.p (.v (.int .i64 (r.2))))] [] := by
  refine Qn tb Tryz.func10 rfl (by kernel_rfl) rfl rfl (Nat.le_of_ble_eq_true rfl) rfl ?_
  intro E
  unfold KL JP at h
  refine Z3 (fun Q hQ => ?_)
  refine tD rfl ?_
  refine sk fun L1 hL1 => ?_
  refine tk fun L hL => ?_
  refine dN 3 rfl ?_
  refine Q2 rfl rfl Q4 (fun hg => Qd rfl rfl) ?_
  refine Q2 rfl rfl Q4 (fun hg => Qd rfl rfl) ?_
  refine Q2 rfl rfl Q4 (fun hg => QA (Qb hg) rfl rfl rfl) ?_
  refine Q2 rfl rfl Q4 (fun hg => Qz (c := decide ((a1) ≥ (((a0).length : Int)))) (Qb hg) (Qb hg) rfl rfl rfl) ?_
  refine u0 (Qm (v := .bool (true)) (w := .bool (decide ((a1) ≥ (((a0).length : Int))))) rfl rfl Q4 rfl Qw) ?_
  refine rt (hL _ ?_)
  refine cn h (fun h => ?_) fun h => ?_
  · refine tD rfl ?_
    obtain rfl := h
    exact Qf (hQ _ _ ⟨.inr rfl, _, _, _, (.cons (.p rfl) (.cons (.p rfl) .nil)), (.cons (.c (.nilo _ (Nat.le_of_ble_eq_true rfl))) (.cons (.c (.p _)) .nil)), rfl, rfl⟩)
  · refine Qi (hL1 _ ?_)
    refine QS (st' := ⟨[(0, .c (.p (.l 97 (List.map Z9 (a0))))), (1, .c (.p (.v (.int .i64 (a1))))), (3, .c (.p (.v (.int .i64 (a3))))), (6, .c (.ptr (6, 0) 0 0))], [((6, 0), some (.box (List.map CV.p (Zf a2))))]⟩) QB.fit ?_
    refine sk fun L2 hL2 => ?_
    refine tk fun L hL => ?_
    refine dN 1 rfl ?_
    obtain ⟨v3, hv3, h⟩ := h
    refine u0 (QQ (UJ hv3)) ?_
    refine dN 1 rfl ?_
    refine rt (hL _ ?_)
    refine tD rfl ?_
    refine cn h (fun h => ?_) fun h => ?_
    · refine tD rfl ?_
      obtain rfl := h
      exact Qf (hQ _ _ ⟨.inr rfl, _, _, _, (.cons (.p rfl) (.cons (.p rfl) .nil)), (.cons (.c (.nilo _ (Nat.le_of_ble_eq_true rfl))) (.cons (.c (.p _)) .nil)), rfl, rfl⟩)
    · refine Qi (hL2 _ ?_)
      refine sk fun L4 hL4 => ?_
      refine tk fun L hL => ?_
      refine dN 2 rfl ?_
      obtain ⟨v5, hv5, h⟩ := h
      refine u0 (QC hv5) ?_
      refine dN 2 rfl ?_
      refine rt (hL _ ?_)
      refine cn h (fun h => ?_) fun h => ?_
      · refine tD rfl ?_
        obtain rfl := h
        exact Qf (hQ _ _ ⟨.inr rfl, _, _, _, (.cons (.p rfl) (.cons (.p rfl) .nil)), (.cons (.c (.nilo _ (Nat.le_of_ble_eq_true rfl))) (.cons (.c (.p _)) .nil)), rfl, rfl⟩)
      · refine Qi (hL4 _ ?_)
        refine tk fun L hL => ?_
        refine dN 1 rfl ?_
        obtain ⟨hm6, h⟩ := h
        refine ul (JR (f := Z9) (L := a0) hm6 rfl rfl rfl rfl rfl rfl rfl rfl rfl rfl (V5 QL rfl rfl rfl rfl rfl)) ?_
        refine dN 1 rfl ?_
        refine rt (hL _ ?_)
        refine tk fun L hL => ?_
        refine dN 2 rfl ?_
        obtain ⟨v7, hv7, h⟩ := h
        refine u0 (QU hv7) ?_
        refine dN 1 rfl ?_
        refine rt (hL _ ?_)
        refine dk mixed (fun L hL => ?_)
        refine dN 9 rfl ?_
        refine un (Zg (x1 := (Qg.mk (true) v7.fOp v7.fm (v7.fa3) (v7.f7) (v7.fa5))) hv7.2) ?_
        refine dN 2 rfl ?_
        refine un (Zg (x1 := (Qg.mk (true) a2 v7.fm (v7.fa3) (v7.f7) (v7.fa5))) (ZE hv7.2)) ?_
        refine dN 2 rfl ?_
        refine un (Kc (x1 := (Qg.mk (true) a2 (Qy.mk (0) (0) (false) (([] : (List Int))) (0) (Qc.mk (Q9.mk (0) (0) (0) (0)) (Qp.mk (0) (0) (false)) (Qa.mk (0) (0) (0) (([] : (List Int))) (false)) (Qj.mk (0) (0) (([] : (List Int)))) (Qs.mk (0) (0) (([] : (List Q1))) (false)) (Qe.mk (0) (0) (0) (([] : (List Q1))) (false)) (Qk.mk (0) (0) (0) (([] : (List (List ByteArray)))) (false))) (Qc.mk (Q9.mk (0) (0) (0) (0)) (Qp.mk (0) (0) (false)) (Qa.mk (0) (0) (0) (([] : (List Int))) (false)) (Qj.mk (0) (0) (([] : (List Int)))) (Qs.mk (0) (0) (([] : (List Q1))) (false)) (Qe.mk (0) (0) (0) (([] : (List Q1))) (false)) (Qk.mk (0) (0) (0) (([] : (List (List ByteArray)))) (false))) (0) (0) (0) (0) (Z8.mk (0) (0)) (([] : (List Int))) (false)) (v7.fa3) (v7.f7) (v7.fa5))) (ZE (ZE hv7.2)) rfl rfl rfl rfl (.cons (.k _) (.cons (.k _) (.cons (.k _) (.cons (.nil _) (.cons (.k _) (.cons (.k _) (.cons (.k _) (.cons (.k _) (.cons (.k _) (.cons (.k _) (.cons (.k _) (.cons (.k _) (.cons (.k _) (.cons (.k _) (.cons (.k _) (.cons (.nil _) (.cons (.k _) (.cons (.k _) (.cons (.k _) (.cons (.nil _) (.cons (.k _) (.cons (.k _) (.cons (.nil _) (.cons (.k _) (.cons (.k _) (.cons (.k _) (.cons (.k _) (.cons (.nil _) (.cons (.k _) (.cons (.k _) (.cons (.k _) (.cons (.k _) (.cons (.nil _) (.cons (.k _) (.cons (.k _) (.cons (.k _) (.cons (.k _) (.cons (.k _) (.cons (.k _) (.cons (.k _) (.cons (.k _) (.cons (.k _) (.cons (.k _) (.cons (.k _) (.cons (.nil _) (.cons (.k _) (.cons (.k _) (.cons (.k _) (.cons (.nil _) (.cons (.k _) (.cons (.k _) (.cons (.nil _) (.cons (.k _) (.cons (.k _) (.cons (.k _) (.cons (.k _) (.cons (.nil _) (.cons (.k _) (.cons (.k _) (.cons (.k _) (.cons (.k _) (.cons (.nil _) (.cons (.k _) (.cons (.k _) (.cons (.k _) (.cons (.k _) (.cons (.k _) (.cons (.k _) (.cons (.k _) (.cons (.nil _) (.cons (.k _) .nil)))))))))))))))))))))))))))))))))))))))))))))))))))))))))))))))))))))))) ?_
        refine dN 2 rfl ?_
        refine un (Zg (x1 := (Qg.mk (true) a2 (Qy.mk (0) (0) (false) (([] : (List Int))) (0) (Qc.mk (Q9.mk (0) (0) (0) (0)) (Qp.mk (0) (0) (false)) (Qa.mk (0) (0) (0) (([] : (List Int))) (false)) (Qj.mk (0) (0) (([] : (List Int)))) (Qs.mk (0) (0) (([] : (List Q1))) (false)) (Qe.mk (0) (0) (0) (([] : (List Q1))) (false)) (Qk.mk (0) (0) (0) (([] : (List (List ByteArray)))) (false))) (Qc.mk (Q9.mk (0) (0) (0) (0)) (Qp.mk (0) (0) (false)) (Qa.mk (0) (0) (0) (([] : (List Int))) (false)) (Qj.mk (0) (0) (([] : (List Int)))) (Qs.mk (0) (0) (([] : (List Q1))) (false)) (Qe.mk (0) (0) (0) (([] : (List Q1))) (false)) (Qk.mk (0) (0) (0) (([] : (List (List ByteArray)))) (false))) (0) (0) (0) (0) (Z8.mk (0) (0)) (([] : (List Int))) (false)) (a3) (v7.f7) (v7.fa5))) (ZE (ZE (ZE hv7.2)))) ?_
        refine rd (hL _ ?_)
        refine tD rfl ?_
        obtain rfl := h
        exact Qf (hQ _ _ ⟨.inr rfl, _, _, _, (.cons (.s rfl) (.cons (.p rfl) .nil)), (.cons (.c (.own rfl (by simp))) (.cons (.c (.p _)) .nil)), rfl, rfl⟩)
def XZ (a0 : (List Qg)) (a1 : Int) (Q : ((List Qg) × Int) → Prop) : Prop :=
 ((((bif decide ((a1) < (0)) then true else decide ((a1) ≥ (((a0).length : Int))))) = true → Q (([] : (List Qg)), (5))) ∧ (((bif decide ((a1) < (0)) then true else decide ((a1) ≥ (((a0).length : Int))))) = false → ∃ (v3 : Qg), ix (a0) (a1) v3 ∧ (((!(v3.fb7)) = true → Q (([] : (List Qg)), (13))) ∧ ((!(v3.fb7)) = false → ((a0).length * 1088 ≤ 140737488355328) ∧ ∃ (v5 : Qg), ix (a0) (a1) v5 ∧ Q ((List.set (List.set (List.set (List.set (a0) (Int.toNat (a1)) ((Qg.mk (false) v5.fOp v5.fm (v5.fa3) (v5.f7) (v5.fa5)))) (Int.toNat (a1)) ((Qg.mk (false) (Qo.mk (0) (ByteArray.empty) (ByteArray.empty) (([] : (List ByteArray))) (Q9.mk (0) (0) (0) (0)) (([] : (List Qh))) (([] : (List Int))) (0) (0) (0) (0) (0) (0) (Qu.mk (0) (ByteArray.empty) (0) (0) (0)) (([] : (List Int)))) v5.fm (v5.fa3) (v5.f7) (v5.fa5)))) (Int.toNat (a1)) ((Qg.mk (false) (Qo.mk (0) (ByteArray.empty) (ByteArray.empty) (([] : (List ByteArray))) (Q9.mk (0) (0) (0) (0)) (([] : (List Qh))) (([] : (List Int))) (0) (0) (0) (0) (0) (0) (Qu.mk (0) (ByteArray.empty) (0) (0) (0)) (([] : (List Int)))) (Qy.mk (0) (0) (false) (([] : (List Int))) (0) (Qc.mk (Q9.mk (0) (0) (0) (0)) (Qp.mk (0) (0) (false)) (Qa.mk (0) (0) (0) (([] : (List Int))) (false)) (Qj.mk (0) (0) (([] : (List Int)))) (Qs.mk (0) (0) (([] : (List Q1))) (false)) (Qe.mk (0) (0) (0) (([] : (List Q1))) (false)) (Qk.mk (0) (0) (0) (([] : (List (List ByteArray)))) (false))) (Qc.mk (Q9.mk (0) (0) (0) (0)) (Qp.mk (0) (0) (false)) (Qa.mk (0) (0) (0) (([] : (List Int))) (false)) (Qj.mk (0) (0) (([] : (List Int)))) (Qs.mk (0) (0) (([] : (List Q1))) (false)) (Qe.mk (0) (0) (0) (([] : (List Q1))) (false)) (Qk.mk (0) (0) (0) (([] : (List (List ByteArray)))) (false))) (0) (0) (0) (0) (Z8.mk (0) (0)) (([] : (List Int))) (false)) (v5.fa3) (v5.f7) (v5.fa5)))) (Int.toNat (a1)) ((Qg.mk (false) (Qo.mk (0) (ByteArray.empty) (ByteArray.empty) (([] : (List ByteArray))) (Q9.mk (0) (0) (0) (0)) (([] : (List Qh))) (([] : (List Int))) (0) (0) (0) (0) (0) (0) (Qu.mk (0) (ByteArray.empty) (0) (0) (0)) (([] : (List Int)))) (Qy.mk (0) (0) (false) (([] : (List Int))) (0) (Qc.mk (Q9.mk (0) (0) (0) (0)) (Qp.mk (0) (0) (false)) (Qa.mk (0) (0) (0) (([] : (List Int))) (false)) (Qj.mk (0) (0) (([] : (List Int)))) (Qs.mk (0) (0) (([] : (List Q1))) (false)) (Qe.mk (0) (0) (0) (([] : (List Q1))) (false)) (Qk.mk (0) (0) (0) (([] : (List (List ByteArray)))) (false))) (Qc.mk (Q9.mk (0) (0) (0) (0)) (Qp.mk (0) (0) (false)) (Qa.mk (0) (0) (0) (([] : (List Int))) (false)) (Qj.mk (0) (0) (([] : (List Int)))) (Qs.mk (0) (0) (([] : (List Q1))) (false)) (Qe.mk (0) (0) (0) (([] : (List Q1))) (false)) (Qk.mk (0) (0) (0) (([] : (List (List ByteArray)))) (false))) (0) (0) (0) (0) (Z8.mk (0) (0)) (([] : (List Int))) (false)) (0) (v5.f7) (v5.fa5)))), (0))))))
def Vd (a0 : (List Qg)) (a1 : Int) (r : (List Qg) × Int) : Prop := XZ a0 a1 fun x => r = x
theorem Bz {a0 : (List Qg)} {a1 : Int} {r : (List Qg) × Int} (h : Vd a0 a1 r) : Qq Tryz.prog 14 [.c (.l 97 (List.map Z9 (a0))), .c (.v (.int .i64 (a1)))] [.c (.own 97 (List.map Z9 (r.1))), .c (.p (.v (.int .i64 (r.2))))] [] := by
  refine Qn tb Tryz.func14 rfl (by kernel_rfl) rfl rfl (Nat.le_of_ble_eq_true rfl) rfl ?_
  intro E
  unfold Vd XZ at h
  refine Z3 (fun Q hQ => ?_)
  refine tD rfl ?_
  refine sk fun L1 hL1 => ?_
  refine tk fun L hL => ?_
  refine dN 3 rfl ?_
  refine Q2 rfl rfl Q4 (fun hg => Qd rfl rfl) ?_
  refine Q2 rfl rfl Q4 (fun hg => Qd rfl rfl) ?_
  refine Q2 rfl rfl Q4 (fun hg => QA (Qb hg) rfl rfl rfl) ?_
  refine Q2 rfl rfl Q4 (fun hg => Qz (c := decide ((a1) ≥ (((a0).length : Int)))) (Qb hg) (Qb hg) rfl rfl rfl) ?_
  refine u0 (Qm (v := .bool (true)) (w := .bool (decide ((a1) ≥ (((a0).length : Int))))) rfl rfl Q4 rfl Qw) ?_
  refine rt (hL _ ?_)
  refine cn h (fun h => ?_) fun h => ?_
  · refine tD rfl ?_
    obtain rfl := h
    exact Qf (hQ _ _ ⟨.inr rfl, _, _, _, (.cons (.p rfl) (.cons (.p rfl) .nil)), (.cons (.c (.nilo _ (Nat.le_of_ble_eq_true rfl))) (.cons (.c (.p _)) .nil)), rfl, rfl⟩)
  · refine Qi (hL1 _ ?_)
    refine QS (st' := ⟨[(0, .c (.p (.l 97 (List.map Z9 (a0))))), (1, .c (.p (.v (.int .i64 (a1)))))], []⟩) QB.fit ?_
    refine sk fun L2 hL2 => ?_
    refine tk fun L hL => ?_
    refine dN 2 rfl ?_
    obtain ⟨v3, hv3, h⟩ := h
    refine u0 (QC hv3) ?_
    refine dN 3 rfl ?_
    refine rt (hL _ ?_)
    refine cn h (fun h => ?_) fun h => ?_
    · refine tD rfl ?_
      obtain rfl := h
      exact Qf (hQ _ _ ⟨.inr rfl, _, _, _, (.cons (.p rfl) (.cons (.p rfl) .nil)), (.cons (.c (.nilo _ (Nat.le_of_ble_eq_true rfl))) (.cons (.c (.p _)) .nil)), rfl, rfl⟩)
    · refine Qi (hL2 _ ?_)
      refine tk fun L hL => ?_
      refine dN 1 rfl ?_
      obtain ⟨hm4, h⟩ := h
      refine ul (JR (f := Z9) (L := a0) hm4 rfl rfl rfl rfl rfl rfl rfl rfl rfl rfl (V5 QL rfl rfl rfl rfl rfl)) ?_
      refine dN 1 rfl ?_
      refine rt (hL _ ?_)
      refine tk fun L hL => ?_
      refine dN 2 rfl ?_
      obtain ⟨v5, hv5, h⟩ := h
      refine u0 (QU hv5) ?_
      refine dN 1 rfl ?_
      refine rt (hL _ ?_)
      refine tk fun L hL => ?_
      refine dN 8 rfl ?_
      refine un (Zg (x1 := (Qg.mk (false) v5.fOp v5.fm (v5.fa3) (v5.f7) (v5.fa5))) hv5.2) ?_
      refine dN 2 rfl ?_
      refine un (Kc (x1 := (Qg.mk (false) (Qo.mk (0) (ByteArray.empty) (ByteArray.empty) (([] : (List ByteArray))) (Q9.mk (0) (0) (0) (0)) (([] : (List Qh))) (([] : (List Int))) (0) (0) (0) (0) (0) (0) (Qu.mk (0) (ByteArray.empty) (0) (0) (0)) (([] : (List Int)))) v5.fm (v5.fa3) (v5.f7) (v5.fa5))) (ZE hv5.2) rfl rfl rfl rfl (.cons (.k _) (.cons (.k _) (.cons (.k _) (.cons (.nil _) (.cons (.k _) (.cons (.k _) (.cons (.k _) (.cons (.k _) (.cons (.nil _) (.cons (.nil _) (.cons (.k _) (.cons (.k _) (.cons (.k _) (.cons (.k _) (.cons (.k _) (.cons (.k _) (.cons (.k _) (.cons (.k _) (.cons (.k _) (.cons (.k _) (.cons (.k _) (.cons (.nil _) .nil))))))))))))))))))))))) ?_
      refine dN 2 rfl ?_
      refine un (Kc (x1 := (Qg.mk (false) (Qo.mk (0) (ByteArray.empty) (ByteArray.empty) (([] : (List ByteArray))) (Q9.mk (0) (0) (0) (0)) (([] : (List Qh))) (([] : (List Int))) (0) (0) (0) (0) (0) (0) (Qu.mk (0) (ByteArray.empty) (0) (0) (0)) (([] : (List Int)))) (Qy.mk (0) (0) (false) (([] : (List Int))) (0) (Qc.mk (Q9.mk (0) (0) (0) (0)) (Qp.mk (0) (0) (false)) (Qa.mk (0) (0) (0) (([] : (List Int))) (false)) (Qj.mk (0) (0) (([] : (List Int)))) (Qs.mk (0) (0) (([] : (List Q1))) (false)) (Qe.mk (0) (0) (0) (([] : (List Q1))) (false)) (Qk.mk (0) (0) (0) (([] : (List (List ByteArray)))) (false))) (Qc.mk (Q9.mk (0) (0) (0) (0)) (Qp.mk (0) (0) (false)) (Qa.mk (0) (0) (0) (([] : (List Int))) (false)) (Qj.mk (0) (0) (([] : (List Int)))) (Qs.mk (0) (0) (([] : (List Q1))) (false)) (Qe.mk (0) (0) (0) (([] : (List Q1))) (false)) (Qk.mk (0) (0) (0) (([] : (List (List ByteArray)))) (false))) (0) (0) (0) (0) (Z8.mk (0) (0)) (([] : (List Int))) (false)) (v5.fa3) (v5.f7) (v5.fa5))) (ZE (ZE hv5.2)) rfl rfl rfl rfl (.cons (.k _) (.cons (.k _) (.cons (.k _) (.cons (.nil _) (.cons (.k _) (.cons (.k _) (.cons (.k _) (.cons (.k _) (.cons (.k _) (.cons (.k _) (.cons (.k _) (.cons (.k _) (.cons (.k _) (.cons (.k _) (.cons (.k _) (.cons (.nil _) (.cons (.k _) (.cons (.k _) (.cons (.k _) (.cons (.nil _) (.cons (.k _) (.cons (.k _) (.cons (.nil _) (.cons (.k _) (.cons (.k _) (.cons (.k _) (.cons (.k _) (.cons (.nil _) (.cons (.k _) (.cons (.k _) (.cons (.k _) (.cons (.k _) (.cons (.nil _) (.cons (.k _) (.cons (.k _) (.cons (.k _) (.cons (.k _) (.cons (.k _) (.cons (.k _) (.cons (.k _) (.cons (.k _) (.cons (.k _) (.cons (.k _) (.cons (.k _) (.cons (.nil _) (.cons (.k _) (.cons (.k _) (.cons (.k _) (.cons (.nil _) (.cons (.k _) (.cons (.k _) (.cons (.nil _) (.cons (.k _) (.cons (.k _) (.cons (.k _) (.cons (.k _) (.cons (.nil _) (.cons (.k _) (.cons (.k _) (.cons (.k _) (.cons (.k _) (.cons (.nil _) (.cons (.k _) (.cons (.k _) (.cons (.k _) (.cons (.k _) (.cons (.k _) (.cons (.k _) (.cons (.k _) (.cons (.nil _) (.cons (.k _) .nil)))))))))))))))))))))))))))))))))))))))))))))))))))))))))))))))))))))))) ?_
      refine dN 2 rfl ?_
      refine un (Zg (x1 := (Qg.mk (false) (Qo.mk (0) (ByteArray.empty) (ByteArray.empty) (([] : (List ByteArray))) (Q9.mk (0) (0) (0) (0)) (([] : (List Qh))) (([] : (List Int))) (0) (0) (0) (0) (0) (0) (Qu.mk (0) (ByteArray.empty) (0) (0) (0)) (([] : (List Int)))) (Qy.mk (0) (0) (false) (([] : (List Int))) (0) (Qc.mk (Q9.mk (0) (0) (0) (0)) (Qp.mk (0) (0) (false)) (Qa.mk (0) (0) (0) (([] : (List Int))) (false)) (Qj.mk (0) (0) (([] : (List Int)))) (Qs.mk (0) (0) (([] : (List Q1))) (false)) (Qe.mk (0) (0) (0) (([] : (List Q1))) (false)) (Qk.mk (0) (0) (0) (([] : (List (List ByteArray)))) (false))) (Qc.mk (Q9.mk (0) (0) (0) (0)) (Qp.mk (0) (0) (false)) (Qa.mk (0) (0) (0) (([] : (List Int))) (false)) (Qj.mk (0) (0) (([] : (List Int)))) (Qs.mk (0) (0) (([] : (List Q1))) (false)) (Qe.mk (0) (0) (0) (([] : (List Q1))) (false)) (Qk.mk (0) (0) (0) (([] : (List (List ByteArray)))) (false))) (0) (0) (0) (0) (Z8.mk (0) (0)) (([] : (List Int))) (false)) (0) (v5.f7) (v5.fa5))) (ZE (ZE (ZE hv5.2)))) ?_
      refine rt (hL _ ?_)
      refine tD rfl ?_
      obtain rfl := h
      exact Qf (hQ _ _ ⟨.inr rfl, _, _, _, (.cons (.s rfl) (.cons (.p rfl) .nil)), (.cons (.c (.own rfl (by simp))) (.cons (.c (.p _)) .nil)), rfl, rfl⟩)
set_option maxRecDepth 100000
set_option maxHeartbeats 4000000
def BR (id : Nat) : Code → Option (Array Oper)
  | .region i ops _ => match Nat.beq i id with
    | true => some ops
    | false => none
  | .seq a b => (BR id a).or (BR id b)
  | .cond _ a b => (BR id a).or (BR id b)
  | .block _ a => BR id a
  | .loop a => BR id a
  | .scope a => BR id a
  | _ => none
section
variable {P : Program} {ops : Array Oper} {Q : Exit → Act → World → Prop} {listed : Array Bool} {fuel : Nat} {a : Act} {w : World} {E : En} {N : Nat} {st : St} {cx : Cx}
theorem Vt (L : List Nat) (hL : Region.ready .any ops listed = L) (hne : L ≠ []) (h : ∀ i ∈ L, wpOp P ops Q i (wpAny P .any ops Q fuel (listed.setIfInBounds i true)) a w) : wpAny P .any ops Q (fuel + 1) listed a w :=
  ⟨fun h' => absurd (hL ▸ h') hne, fun i hi => h i (hL ▸ hi)⟩
theorem Kg {i : Nat} {o : Oper} {f : Fp} {ef : Ef} {K : Act → World → Prop} (hr : ZV E N cx st a w) (ho : ops[i]? = some o) (hg : o.guard = none) (hop : KB E N P ops o st f ef) (hf : f.al.all (fun b => W3 b st) = true) (hd : o.dst.all (fun d => Nat.blt d N) = true)
    (k : ∀ cx' a' w', ZV E N cx' (ef.ap o st) a' w' → K a' w') : wpOp P ops Q i K a w := by
  unfold wpOp
  rw [ho]
  simp only
  have hw : Region.wanted o (yielded ops a.tmps) = true := by unfold Region.wanted; rw [hg]
  rw [if_pos hw]
  refine .inl (Oper.wp_mono ?_ (hop st ⟨fun _ _ => rfl, fun _ _ => rfl⟩ (fun b hb => Wm (List.all_eq_true.1 hf b hb)) (fun d hd' => ?_) cx a w Q hr))
  · rintro a' w' ⟨cx', hr'⟩; exact k cx' a' w' hr'
  · rw [hd'] at hd
    exact Nat.le_of_ble_eq_true hd
theorem OJ (hL : Region.ready .any ops listed = []) (h : Q .normal a w) : wpAny P .any ops Q 0 listed a w := ⟨hL, h⟩
theorem ZV.sub {st' : St} (hr : ZV E N cx st a w) (h : QB st st') : ∃ cx', ZV E N cx' st' a w := h E N cx a w hr
end
def Dp (v1 v2 : Value) : Qg := Qg.mk false (Qo.mk 0 ByteArray.empty ByteArray.empty [] (Q9.mk 0 0 0 0) [] [] 0 0 0 0 0 0 (Qu.mk 0 ByteArray.empty 0 0 0) []) (Qy.mk 0 0 false [] 0 (Qc.mk (Q9.mk 0 0 0 0) (Qp.mk 0 0 false) (Qa.mk 0 0 0 [] false) (Qj.mk 0 0 []) (Qs.mk 0 0 [] false) (Qe.mk 0 0 0 [] false) (Qk.mk 0 0 0 [] false)) (Qc.mk (Q9.mk 0 0 0 0) (Qp.mk 0 0 false) (Qa.mk 0 0 0 [] false) (Qj.mk 0 0 []) (Qs.mk 0 0 [] false) (Qe.mk 0 0 0 [] false) (Qk.mk 0 0 0 [] false)) 0 0 0 0 (Z8.mk 0 0) [] false) 0 v1 v2
def zC (v1 v2 : Value) : List CV := [.p (.v (.bool (false))), .p (.v (.int .i64 0)), .p (.v (.string (ByteArray.empty))), .p (.v (.string (ByteArray.empty))), .p (.v (.slice none 0 0)), .p (.v (.int .i64 0)), .p (.v (.int .i64 0)), .p (.v (.int .i64 0)), .p (.v (.int .u64 (0))), .p (.v (.slice none 0 0)), .p (.v (.slice none 0 0)), .p (.v (.int .i64 0)), .p (.v (.int .i64 0)), .p (.v (.int .i64 0)), .p (.v (.int .i64 0)), .p (.v (.int .i64 0)), .p (.v (.int .i64 0)), .p (.v (.int .i64 0)), .p (.v (.string (ByteArray.empty))), .p (.v (.int .i64 0)), .p (.v (.int .i64 0)), .p (.v (.int .i64 0)), .p (.v (.slice none 0 0)), .p (.v (.int .i64 0)), .p (.v (.int .i64 0)), .p (.v (.bool (false))), .p (.v (.slice none 0 0)), .p (.v (.int .i64 0)), .p (.v (.int .i64 0)), .p (.v (.int .i64 0)), .p (.v (.int .i64 0)), .p (.v (.int .u64 (0))), .p (.v (.int .i64 0)), .p (.v (.int .i64 0)), .p (.v (.bool (false))), .p (.v (.int .i64 0)), .p (.v (.int .i64 0)), .p (.v (.int .u64 (0))), .p (.v (.slice none 0 0)), .p (.v (.bool (false))), .p (.v (.int .i64 0)), .p (.v (.int .u64 (0))), .p (.v (.slice none 0 0)), .p (.v (.int .i64 0)), .p (.v (.int .i64 0)), .p (.v (.slice none 0 0)), .p (.v (.bool (false))), .p (.v (.int .i64 0)), .p (.v (.int .i64 0)), .p (.v (.int .i64 0)), .p (.v (.slice none 0 0)), .p (.v (.bool (false))), .p (.v (.int .i64 0)), .p (.v (.int .i64 0)), .p (.v (.int .i64 0)), .p (.v (.slice none 0 0)), .p (.v (.bool (false))), .p (.v (.int .i64 0)), .p (.v (.int .i64 0)), .p (.v (.int .i64 0)), .p (.v (.int .u64 (0))), .p (.v (.int .i64 0)), .p (.v (.int .i64 0)), .p (.v (.bool (false))), .p (.v (.int .i64 0)), .p (.v (.int .i64 0)), .p (.v (.int .u64 (0))), .p (.v (.slice none 0 0)), .p (.v (.bool (false))), .p (.v (.int .i64 0)), .p (.v (.int .u64 (0))), .p (.v (.slice none 0 0)), .p (.v (.int .i64 0)), .p (.v (.int .i64 0)), .p (.v (.slice none 0 0)), .p (.v (.bool (false))), .p (.v (.int .i64 0)), .p (.v (.int .i64 0)), .p (.v (.int .i64 0)), .p (.v (.slice none 0 0)), .p (.v (.bool (false))), .p (.v (.int .i64 0)), .p (.v (.int .i64 0)), .p (.v (.int .i64 0)), .p (.v (.slice none 0 0)), .p (.v (.bool (false))), .p (.v (.int .i64 0)), .p (.v (.int .i64 0)), .p (.v (.int .i64 0)), .p (.v (.int .i64 0)), .p (.v (.int .i64 0)), .p (.v (.int .i64 0)), .p (.v (.slice none 0 0)), .p (.v (.bool (false))), .p (.v (.int .i64 0)), .p (.o (v1)), .p (.o (v2))]
noncomputable def Cs : Array Oper := ((Tryz.f20.body.bind (BR 7)).getD #[])
abbrev Ye (ts : List Qg) : Bk := .row 97 (List.map Z9 ts) true
abbrev XD (ts : List Qg) : Nat := (List.map Z9 ts).length
def q0 (n i : Int) (ts : List Qg) : List (Nat × TV) := [(0, .c (.p (.v (.int .i64 n)))), (4, .c (.sl (4, 1000) 0 (XD ts))), (5, .c (.p (.v (.int .i64 i))))]
def R1 (b : Bool) (ts : List Qg) : List (Nat × TV) := match b with
  | true => [(17, .c (.sl (4, 1000) 0 (XD ts)))]
  | false => []
def qF (n i : Int) (ts : List Qg) : St := ⟨q0 n i ts, [((4, 1000), some (Ye ts))]⟩
def q3 (b : Bool) (n i : Int) (ts : List Qg) (v1 v2 : Value) : St := ⟨q0 n i ts ++ R1 b ts ++ [(18, .c (.p (.o v1))), (19, .c (.p (.o v2)))], [((4, 1000), some (Ye ts))]⟩
def q4 (b : Bool) (n i : Int) (ts : List Qg) (v1 v2 : Value) : St := ⟨q0 n i ts ++ R1 b ts ++ [(20, .agg (zC v1 v2))], [((4, 1000), some (Ye ts))]⟩
def q5 (b : Bool) (n i : Int) (ts : List Qg) (v1 v2 : Value) : St := ⟨q0 n i ts ++ R1 b ts ++ [(21, .c (.sl (21, 0) 0 1))], [((4, 1000), some (Ye ts)), ((21, 0), some (Ye [Dp v1 v2]))]⟩
noncomputable abbrev nN : Nat := Tryz.f20.ntmps
section
variable {E : En} {Q : Exit → Act → World → Prop} {a : Act} {w : World} {cx : Cx} {n i : Int} {ts : List Qg} {v1 v2 : Value} {b : Bool}
theorem P6 (hl : ts.length ≤ 64) (hQ : ∀ a' w' cx', ZV E nN cx' (qF n i (ts ++ [Dp v1 v2])) a' w' → Q .normal a' w') (hr : ZV E nN cx (q5 true n i ts v1 v2) a w) : wpAny Tryz.prog .any Cs Q 2 #[true, true, true, true, true, false, false] a w := by
  refine Vt [5] (by kernel_rfl) (by simp) fun j hj => ?_
  obtain rfl := List.mem_singleton.1 hj
  refine Kg hr rfl rfl (QK (f := Z9) (L := ts) (L' := [Dp v1 v2]) (by' := 1088) (by simp; omega) rfl rfl rfl rfl rfl rfl rfl rfl rfl rfl rfl (Z0 QL rfl rfl rfl rfl rfl rfl)) rfl rfl fun cx1 a1 w1 hr1 => ?_
  refine Vt [6] (by kernel_rfl) (by simp) fun j hj => ?_
  obtain rfl := List.mem_singleton.1 hj
  refine Kg hr1 rfl rfl (WO rfl rfl) rfl rfl fun cx2 a2 w2 hr2 => ?_
  obtain ⟨cx3, hr3⟩ := hr2.sub (st' := qF n i (ts ++ [Dp v1 v2])) (QB.nm [0, 4, 5] [((22, 0), (4, 1000))] rfl (by kernel_rfl))
  exact OJ (by kernel_rfl) (hQ _ _ _ hr3)
theorem r7_5 (hl : ts.length ≤ 64) (hQ : ∀ a' w' cx', ZV E nN cx' (qF n i (ts ++ [Dp v1 v2])) a' w' → Q .normal a' w') (hr : ZV E nN cx (q5 false n i ts v1 v2) a w) : wpAny Tryz.prog .any Cs Q 3 #[false, true, true, true, true, false, false] a w := by
  refine Vt [0] (by kernel_rfl) (by simp) fun j hj => ?_
  obtain rfl := List.mem_singleton.1 hj
  refine Kg hr rfl rfl (Qd rfl rfl) rfl rfl fun cx1 a1 w1 hr1 => ?_
  obtain ⟨cx2, hr2⟩ := hr1.sub (st' := q5 true n i ts v1 v2) QB.fit
  exact P6 hl hQ hr2
theorem P7 (hl : ts.length ≤ 64) (hQ : ∀ a' w' cx', ZV E nN cx' (qF n i (ts ++ [Dp v1 v2])) a' w' → Q .normal a' w') (hr : ZV E nN cx (q4 true n i ts v1 v2) a w) : wpAny Tryz.prog .any Cs Q 3 #[true, true, true, true, false, false, false] a w := by
  refine Vt [4] (by kernel_rfl) (by simp) fun j hj => ?_
  obtain rfl := List.mem_singleton.1 hj
  refine Kg hr rfl rfl (Xn (rows := List.map Z9 [Dp v1 v2]) rfl rfl rfl rfl rfl rfl rfl rfl rfl (.cons (.k _) (.cons (.k _) (.cons (.k _) (.cons (.k _) (.cons (.nil _) (.cons (.k _) (.cons (.k _) (.cons (.k _) (.cons (.k _) (.cons (.nil _) (.cons (.nil _) (.cons (.k _) (.cons (.k _) (.cons (.k _) (.cons (.k _) (.cons (.k _) (.cons (.k _) (.cons (.k _) (.cons (.k _) (.cons (.k _) (.cons (.k _) (.cons (.k _) (.cons (.nil _) (.cons (.k _) (.cons (.k _) (.cons (.k _) (.cons (.nil _) (.cons (.k _) (.cons (.k _) (.cons (.k _) (.cons (.k _) (.cons (.k _) (.cons (.k _) (.cons (.k _) (.cons (.k _) (.cons (.k _) (.cons (.k _) (.cons (.k _) (.cons (.nil _) (.cons (.k _) (.cons (.k _) (.cons (.k _) (.cons (.nil _) (.cons (.k _) (.cons (.k _) (.cons (.nil _) (.cons (.k _) (.cons (.k _) (.cons (.k _) (.cons (.k _) (.cons (.nil _) (.cons (.k _) (.cons (.k _) (.cons (.k _) (.cons (.k _) (.cons (.nil _) (.cons (.k _) (.cons (.k _) (.cons (.k _) (.cons (.k _) (.cons (.k _) (.cons (.k _) (.cons (.k _) (.cons (.k _) (.cons (.k _) (.cons (.k _) (.cons (.k _) (.cons (.nil _) (.cons (.k _) (.cons (.k _) (.cons (.k _) (.cons (.nil _) (.cons (.k _) (.cons (.k _) (.cons (.nil _) (.cons (.k _) (.cons (.k _) (.cons (.k _) (.cons (.k _) (.cons (.nil _) (.cons (.k _) (.cons (.k _) (.cons (.k _) (.cons (.k _) (.cons (.nil _) (.cons (.k _) (.cons (.k _) (.cons (.k _) (.cons (.k _) (.cons (.k _) (.cons (.k _) (.cons (.k _) (.cons (.nil _) (.cons (.k _) (.cons (.k _) (.cons (.k _) (.cons (.k _) .nil)))))))))))))))))))))))))))))))))))))))))))))))))))))))))))))))))))))))))))))))))))))))))))))))))) rfl rfl fun cx1 a1 w1 hr1 => ?_
  obtain ⟨cx2, hr2⟩ := hr1.sub (st' := q5 true n i ts v1 v2) QB.fit
  exact P6 hl hQ hr2
theorem r7_4 (hl : ts.length ≤ 64) (hQ : ∀ a' w' cx', ZV E nN cx' (qF n i (ts ++ [Dp v1 v2])) a' w' → Q .normal a' w') (hr : ZV E nN cx (q4 false n i ts v1 v2) a w) : wpAny Tryz.prog .any Cs Q 4 #[false, true, true, true, false, false, false] a w := by
  refine Vt [0, 4] (by kernel_rfl) (by simp) fun j hj => ?_
  rcases List.mem_cons.1 hj with rfl | hj
  · refine Kg hr rfl rfl (Qd rfl rfl) rfl rfl fun cx1 a1 w1 hr1 => ?_
    obtain ⟨cx2, hr2⟩ := hr1.sub (st' := q4 true n i ts v1 v2) QB.fit
    exact P7 hl hQ hr2
  · obtain rfl := List.mem_singleton.1 hj
    refine Kg hr rfl rfl (Xn (rows := List.map Z9 [Dp v1 v2]) rfl rfl rfl rfl rfl rfl rfl rfl rfl (.cons (.k _) (.cons (.k _) (.cons (.k _) (.cons (.k _) (.cons (.nil _) (.cons (.k _) (.cons (.k _) (.cons (.k _) (.cons (.k _) (.cons (.nil _) (.cons (.nil _) (.cons (.k _) (.cons (.k _) (.cons (.k _) (.cons (.k _) (.cons (.k _) (.cons (.k _) (.cons (.k _) (.cons (.k _) (.cons (.k _) (.cons (.k _) (.cons (.k _) (.cons (.nil _) (.cons (.k _) (.cons (.k _) (.cons (.k _) (.cons (.nil _) (.cons (.k _) (.cons (.k _) (.cons (.k _) (.cons (.k _) (.cons (.k _) (.cons (.k _) (.cons (.k _) (.cons (.k _) (.cons (.k _) (.cons (.k _) (.cons (.k _) (.cons (.nil _) (.cons (.k _) (.cons (.k _) (.cons (.k _) (.cons (.nil _) (.cons (.k _) (.cons (.k _) (.cons (.nil _) (.cons (.k _) (.cons (.k _) (.cons (.k _) (.cons (.k _) (.cons (.nil _) (.cons (.k _) (.cons (.k _) (.cons (.k _) (.cons (.k _) (.cons (.nil _) (.cons (.k _) (.cons (.k _) (.cons (.k _) (.cons (.k _) (.cons (.k _) (.cons (.k _) (.cons (.k _) (.cons (.k _) (.cons (.k _) (.cons (.k _) (.cons (.k _) (.cons (.nil _) (.cons (.k _) (.cons (.k _) (.cons (.k _) (.cons (.nil _) (.cons (.k _) (.cons (.k _) (.cons (.nil _) (.cons (.k _) (.cons (.k _) (.cons (.k _) (.cons (.k _) (.cons (.nil _) (.cons (.k _) (.cons (.k _) (.cons (.k _) (.cons (.k _) (.cons (.nil _) (.cons (.k _) (.cons (.k _) (.cons (.k _) (.cons (.k _) (.cons (.k _) (.cons (.k _) (.cons (.k _) (.cons (.nil _) (.cons (.k _) (.cons (.k _) (.cons (.k _) (.cons (.k _) .nil)))))))))))))))))))))))))))))))))))))))))))))))))))))))))))))))))))))))))))))))))))))))))))))))))) rfl rfl fun cx1 a1 w1 hr1 => ?_
    obtain ⟨cx2, hr2⟩ := hr1.sub (st' := q5 false n i ts v1 v2) QB.fit
    exact r7_5 hl hQ hr2
theorem P8 (hl : ts.length ≤ 64) (hQ : ∀ a' w' cx', ZV E nN cx' (qF n i (ts ++ [Dp v1 v2])) a' w' → Q .normal a' w') (hr : ZV E nN cx (q3 true n i ts v1 v2) a w) : wpAny Tryz.prog .any Cs Q 4 #[true, true, true, false, false, false, false] a w := by
  refine Vt [3] (by kernel_rfl) (by simp) fun j hj => ?_
  obtain rfl := List.mem_singleton.1 hj
  refine Kg hr rfl rfl Wn rfl rfl fun cx1 a1 w1 hr1 => ?_
  obtain ⟨cx2, hr2⟩ := hr1.sub (st' := q4 true n i ts v1 v2) QB.fit
  exact P7 hl hQ hr2
theorem r7_3 (hl : ts.length ≤ 64) (hQ : ∀ a' w' cx', ZV E nN cx' (qF n i (ts ++ [Dp v1 v2])) a' w' → Q .normal a' w') (hr : ZV E nN cx (q3 false n i ts v1 v2) a w) : wpAny Tryz.prog .any Cs Q 5 #[false, true, true, false, false, false, false] a w := by
  refine Vt [0, 3] (by kernel_rfl) (by simp) fun j hj => ?_
  rcases List.mem_cons.1 hj with rfl | hj
  · refine Kg hr rfl rfl (Qd rfl rfl) rfl rfl fun cx1 a1 w1 hr1 => ?_
    obtain ⟨cx2, hr2⟩ := hr1.sub (st' := q3 true n i ts v1 v2) QB.fit
    exact P8 hl hQ hr2
  · obtain rfl := List.mem_singleton.1 hj
    refine Kg hr rfl rfl Wn rfl rfl fun cx1 a1 w1 hr1 => ?_
    obtain ⟨cx2, hr2⟩ := hr1.sub (st' := q4 false n i ts v1 v2) QB.fit
    exact r7_4 hl hQ hr2
end
def GdS (S : List Qx) : Prop := ∀ s ∈ S, s.fa0.length ≤ 3
def OK (w : World) (A : Nat → Prop) (x : Qg) (g : Nat × Nat) : Prop :=
  (∃ c S, x.f7 = .slice (some ⟨g.1, 0, none⟩) 4 c ∧ 4 ≤ c ∧ c ≤ maxLen ∧ S.length = 4 ∧ GdS S ∧ Ua w A g.1 3 (List.map QF S)) ∧
  ∃ c C, x.fa5 = .slice (some ⟨g.2, 0, none⟩) 4 c ∧ 4 ≤ c ∧ c ≤ maxLen ∧ C.length = 4 ∧ Ua w A g.2 4 (List.map QY C)
abbrev zSn : Qx := Qx.mk false 0 []
abbrev zCu : QI := QI.mk false 0 ByteArray.empty 0
abbrev P9 : List (List PV) := List.map QF (List.replicate (Int.toNat 4) zSn)
abbrev Pb : List (List PV) := List.map QY (List.replicate (Int.toNat 4) zCu)
def q0b (b : Bool) (n i : Int) (ts : List Qg) : St := ⟨q0 n i ts ++ R1 b ts, [((4, 1000), some (Ye ts))]⟩
def q1 (b : Bool) (n i : Int) (ts : List Qg) : St := ⟨q0 n i ts ++ R1 b ts ++ [(18, .c (.sl (18, 0) 0 P9.length))], [((4, 1000), some (Ye ts)), ((18, 0), some (.row 3 P9 true))]⟩
def q2 (b : Bool) (n i : Int) (ts : List Qg) : St := ⟨q0 n i ts ++ R1 b ts ++ [(19, .c (.sl (19, 0) 0 Pb.length))], [((4, 1000), some (Ye ts)), ((19, 0), some (.row 4 Pb true))]⟩
def q12 (b : Bool) (n i : Int) (ts : List Qg) : St := ⟨q0 n i ts ++ R1 b ts ++ [(18, .c (.sl (18, 0) 0 P9.length)), (19, .c (.sl (19, 0) 0 Pb.length))], [((4, 1000), some (Ye ts)), ((18, 0), some (.row 3 P9 true)), ((19, 0), some (.row 4 Pb true))]⟩
section
variable {E : En} {Q : Exit → Act → World → Prop} {a : Act} {w : World} {cx : Cx} {n i : Int} {ts : List Qg} {v1 v2 : Value} {b : Bool}
theorem qF_h {b' : QZ} (h : (qF n i ts).h b' ≠ none) : b' = (4, 1000) := by
  cases hb : Y0 (4, 1000) b' with
  | true => exact (ZZ.1 hb).symm
  | false =>
    exfalso
    apply h
    show (Uc [((4, 1000), some (Ye ts))] b').getD none = none
    simp only [Uc, hb]
    rfl
def Cnv (E : En) (n i : Int) (ts : List Qg) (a : Act) (w : World) (cx : Cx) (v1 v2 : Value) : Prop :=
  ZV E nN cx (qF n i ts) a w ∧ ∃ g, OK w cx.A (Dp v1 v2) g ∧ g.1 ≠ g.2 ∧ ∀ x, x = g.1 ∨ x = g.2 → ¬ cx.A x ∧ ¬ Own cx (qF n i ts) x ∧ (E.w0.heap.size ≤ x ∨ E.M x)
theorem cv3 (hr : ZV E nN cx (q12 b n i ts) a w) : ∃ v1 v2, Cnv E n i ts a w cx v1 v2 ∧ ZV ⟨w, cx.A, Own cx (qF n i ts), cx.ι⟩ nN cx (q3 b n i ts v1 v2) a w := by
  obtain ⟨g1, c1, e1, l1, m1, i1, r1, n1⟩ := M0 hr (s := 18) (b := (18, 0)) (e := 3) (rows := P9) (m := P9.length) (by cases b <;> rfl) rfl (by simp) (Nat.le_refl _)
  obtain ⟨g2, c2, e2, l2, m2, i2, r2, n2⟩ := M0 hr (s := 19) (b := (19, 0)) (e := 4) (rows := Pb) (m := Pb.length) (by cases b <;> rfl) rfl (by simp) (Nat.le_refl _)
  have h1 := hr.re (s := 18) (t := .c (.p (.o (.slice (some ⟨g1, 0, none⟩) P9.length c1)))) (by rw [e1]; exact ⟨.inr rfl, .o _ rfl⟩)
  have h2 := h1.re (s := 19) (t := .c (.p (.o (.slice (some ⟨g2, 0, none⟩) Pb.length c2)))) (by rw [e2]; exact ⟨.inr rfl, .o _ rfl⟩)
  have h3 : ZV E nN cx (q3 b n i ts (.slice (some ⟨g1, 0, none⟩) P9.length c1) (.slice (some ⟨g2, 0, none⟩) Pb.length c2)) a w := by
    cases b
    · exact h2.cut ⟨rfl, rfl, rfl, rfl, rfl, trivial⟩ ⟨rfl, trivial⟩
    · exact h2.cut ⟨rfl, rfl, rfl, rfl, rfl, rfl, trivial⟩ ⟨rfl, trivial⟩
  have h4 : ZV E nN cx (qF n i ts) a w := by
    cases b
    · exact h2.cut ⟨rfl, rfl, rfl, trivial⟩ ⟨rfl, trivial⟩
    · exact h2.cut ⟨rfl, rfl, rfl, trivial⟩ ⟨rfl, trivial⟩
  have hno : ∀ (c : QZ) (g q : Nat), c ≠ (4, 1000) → (q12 b n i ts).h c ≠ none → cx.ι c = some (g, q) → ¬ Own cx (qF n i ts) g := by
    rintro c g q hc hl hi ⟨b', q', hb', hi'⟩
    have := qF_h hb'
    subst this
    exact hr.inj (4, 1000) c g q' g q (fun h => by cases h) hl hi' hi (Ne.symm hc) rfl
  refine ⟨_, _, ⟨h4, (g1, g2), ⟨⟨c1, List.replicate (Int.toNat 4) zSn, rfl, l1, m1, rfl, fun s hs => by rw [List.eq_of_mem_replicate hs]; simp, r1⟩, c2, List.replicate (Int.toNat 4) zCu, rfl, l2, m2, rfl, r2⟩, ?_, ?_⟩, h3.base⟩
  · exact hr.inj (18, 0) (19, 0) g1 0 g2 0 (fun h => by cases h) (fun h => by cases h) i1 i2 (by simp)
  · rintro x (rfl | rfl)
    · exact ⟨n1, hno (18, 0) _ 0 (by simp) (fun h => by cases h) i1, (hr.own (18, 0) _ 0 (fun h => by cases h) i1).2⟩
    · exact ⟨n2, hno (19, 0) _ 0 (by simp) (fun h => by cases h) i2, (hr.own (19, 0) _ 0 (fun h => by cases h) i2).2⟩
variable (hl : ts.length ≤ 64) (hQ : ∀ a3 w3 cx3 v1 v2, Cnv E n i ts a3 w3 cx3 v1 v2 → ∀ a' w' cx', ZV ⟨w3, cx3.A, Own cx3 (qF n i ts), cx3.ι⟩ nN cx' (qF n i (ts ++ [Dp v1 v2])) a' w' → Q .normal a' w')
include hl hQ
theorem NH (hr : ZV E nN cx (q12 true n i ts) a w) : wpAny Tryz.prog .any Cs Q 4 #[true, true, true, false, false, false, false] a w := by
  obtain ⟨v1, v2, hc, hr2⟩ := cv3 hr
  exact P8 hl (hQ _ _ _ _ _ hc) hr2
theorem Pd (hr : ZV E nN cx (q12 false n i ts) a w) : wpAny Tryz.prog .any Cs Q 5 #[false, true, true, false, false, false, false] a w := by
  obtain ⟨v1, v2, hc, hr2⟩ := cv3 hr
  exact r7_3 hl (hQ _ _ _ _ _ hc) hr2
theorem Pe (hr : ZV E nN cx (q1 true n i ts) a w) : wpAny Tryz.prog .any Cs Q 5 #[true, true, false, false, false, false, false] a w := by
  refine Vt [2] (by kernel_rfl) (by simp) fun j hj => ?_
  obtain rfl := List.mem_singleton.1 hj
  refine Kg hr rfl rfl (XS (f := QY) (z := zCu) (n := 4) (by decide) rfl rfl rfl rfl rfl rfl rfl rfl rfl (.cons (.k _) (.cons (.k _) (.cons (.k _) (.cons (.k _) .nil))))) rfl rfl fun cx1 a1 w1 hr1 => ?_
  obtain ⟨cx2, hr2⟩ := hr1.sub (st' := q12 true n i ts) QB.fit
  exact NH hl hQ hr2
theorem r7_1 (hr : ZV E nN cx (q1 false n i ts) a w) : wpAny Tryz.prog .any Cs Q 6 #[false, true, false, false, false, false, false] a w := by
  refine Vt [0, 2] (by kernel_rfl) (by simp) fun j hj => ?_
  rcases List.mem_cons.1 hj with rfl | hj
  · refine Kg hr rfl rfl (Qd rfl rfl) rfl rfl fun cx1 a1 w1 hr1 => ?_
    obtain ⟨cx2, hr2⟩ := hr1.sub (st' := q1 true n i ts) QB.fit
    exact Pe hl hQ hr2
  · obtain rfl := List.mem_singleton.1 hj
    refine Kg hr rfl rfl (XS (f := QY) (z := zCu) (n := 4) (by decide) rfl rfl rfl rfl rfl rfl rfl rfl rfl (.cons (.k _) (.cons (.k _) (.cons (.k _) (.cons (.k _) .nil))))) rfl rfl fun cx1 a1 w1 hr1 => ?_
    obtain ⟨cx2, hr2⟩ := hr1.sub (st' := q12 false n i ts) QB.fit
    exact Pd hl hQ hr2
theorem Pf (hr : ZV E nN cx (q2 true n i ts) a w) : wpAny Tryz.prog .any Cs Q 5 #[true, false, true, false, false, false, false] a w := by
  refine Vt [1] (by kernel_rfl) (by simp) fun j hj => ?_
  obtain rfl := List.mem_singleton.1 hj
  refine Kg hr rfl rfl (XS (f := QF) (z := zSn) (n := 4) (by decide) rfl rfl rfl rfl rfl rfl rfl rfl rfl (.cons (.k _) (.cons (.k _) (.cons (.nil _) .nil)))) rfl rfl fun cx1 a1 w1 hr1 => ?_
  obtain ⟨cx2, hr2⟩ := hr1.sub (st' := q12 true n i ts) QB.fit
  exact NH hl hQ hr2
theorem r7_2 (hr : ZV E nN cx (q2 false n i ts) a w) : wpAny Tryz.prog .any Cs Q 6 #[false, false, true, false, false, false, false] a w := by
  refine Vt [0, 1] (by kernel_rfl) (by simp) fun j hj => ?_
  rcases List.mem_cons.1 hj with rfl | hj
  · refine Kg hr rfl rfl (Qd rfl rfl) rfl rfl fun cx1 a1 w1 hr1 => ?_
    obtain ⟨cx2, hr2⟩ := hr1.sub (st' := q2 true n i ts) QB.fit
    exact Pf hl hQ hr2
  · obtain rfl := List.mem_singleton.1 hj
    refine Kg hr rfl rfl (XS (f := QF) (z := zSn) (n := 4) (by decide) rfl rfl rfl rfl rfl rfl rfl rfl rfl (.cons (.k _) (.cons (.k _) (.cons (.nil _) .nil)))) rfl rfl fun cx1 a1 w1 hr1 => ?_
    obtain ⟨cx2, hr2⟩ := hr1.sub (st' := q12 false n i ts) QB.fit
    exact Pd hl hQ hr2
theorem r7_0t (hr : ZV E nN cx (q0b true n i ts) a w) : wpAny Tryz.prog .any Cs Q 6 #[true, false, false, false, false, false, false] a w := by
  refine Vt [1, 2] (by kernel_rfl) (by simp) fun j hj => ?_
  rcases List.mem_cons.1 hj with rfl | hj
  · refine Kg hr rfl rfl (XS (f := QF) (z := zSn) (n := 4) (by decide) rfl rfl rfl rfl rfl rfl rfl rfl rfl (.cons (.k _) (.cons (.k _) (.cons (.nil _) .nil)))) rfl rfl fun cx1 a1 w1 hr1 => ?_
    obtain ⟨cx2, hr2⟩ := hr1.sub (st' := q1 true n i ts) QB.fit
    exact Pe hl hQ hr2
  · obtain rfl := List.mem_singleton.1 hj
    refine Kg hr rfl rfl (XS (f := QY) (z := zCu) (n := 4) (by decide) rfl rfl rfl rfl rfl rfl rfl rfl rfl (.cons (.k _) (.cons (.k _) (.cons (.k _) (.cons (.k _) .nil))))) rfl rfl fun cx1 a1 w1 hr1 => ?_
    obtain ⟨cx2, hr2⟩ := hr1.sub (st' := q2 true n i ts) QB.fit
    exact Pf hl hQ hr2
theorem r7_0 (hr : ZV E nN cx (q0b false n i ts) a w) : wpAny Tryz.prog .any Cs Q 7 #[false, false, false, false, false, false, false] a w := by
  refine Vt [0, 1, 2] (by kernel_rfl) (by simp) fun j hj => ?_
  rcases List.mem_cons.1 hj with rfl | hj
  · refine Kg hr rfl rfl (Qd rfl rfl) rfl rfl fun cx1 a1 w1 hr1 => ?_
    obtain ⟨cx2, hr2⟩ := hr1.sub (st' := q0b true n i ts) QB.fit
    exact r7_0t hl hQ hr2
  · rcases List.mem_cons.1 hj with rfl | hj
    · refine Kg hr rfl rfl (XS (f := QF) (z := zSn) (n := 4) (by decide) rfl rfl rfl rfl rfl rfl rfl rfl rfl (.cons (.k _) (.cons (.k _) (.cons (.nil _) .nil)))) rfl rfl fun cx1 a1 w1 hr1 => ?_
      obtain ⟨cx2, hr2⟩ := hr1.sub (st' := q1 false n i ts) QB.fit
      exact r7_1 hl hQ hr2
    · obtain rfl := List.mem_singleton.1 hj
      refine Kg hr rfl rfl (XS (f := QY) (z := zCu) (n := 4) (by decide) rfl rfl rfl rfl rfl rfl rfl rfl rfl (.cons (.k _) (.cons (.k _) (.cons (.k _) (.cons (.k _) .nil))))) rfl rfl fun cx1 a1 w1 hr1 => ?_
      obtain ⟨cx2, hr2⟩ := hr1.sub (st' := q2 false n i ts) QB.fit
      exact r7_2 hl hQ hr2
end
set_option maxRecDepth 100000
set_option maxHeartbeats 4000000
def It (gs : List (Nat × Nat)) : List Nat := gs.flatMap fun g => [g.1, g.2]
theorem V4 {gs : List (Nat × Nat)} {x : Nat} : x ∈ It gs ↔ ∃ g ∈ gs, x = g.1 ∨ x = g.2 := by simp [It, List.mem_flatMap]
def Apart (gs : List (Nat × Nat)) : Prop := (∀ g ∈ gs, g.1 ≠ g.2) ∧ ∀ (k k' : Nat) g g', gs[k]? = some g → gs[k']? = some g' → k ≠ k' → g.1 ≠ g'.1 ∧ g.1 ≠ g'.2 ∧ g.2 ≠ g'.1 ∧ g.2 ≠ g'.2
structure DX (w : World) (A O lo : Nat → Prop) (ts : List Qg) (gs : List (Nat × Nat)) : Prop where
  len : gs.length = ts.length
  els : ∀ (k : Nat) x g, ts[k]? = some x → gs[k]? = some g → OK w A x g
  nd : Apart gs
  off : ∀ x ∈ It gs, ¬ A x ∧ ¬ O x ∧ lo x
structure Fr (w0 : World) (A0 : Nat → Prop) (w : World) (cx : Cx) (st : St) : Prop where
  sz : w0.heap.size ≤ w.heap.size
  kept : ∀ g, g < w0.heap.size → w.heap[g]? = w0.heap[g]?
  A : ∀ g, A0 g → cx.A g
  A' : ∀ g, cx.A g → A0 g ∨ w0.heap.size ≤ g
  own : ∀ g, Own cx st g → w0.heap.size ≤ g
  os : w.os = w0.os
  tape : w.tape = w0.tape
  output : w.output = w0.output
section
variable {E : En} {N : Nat} {P : Program} {st st' : St} {cx cx' : Cx} {a : Act} {w w' w0 : World} {A0 lo X : Nat → Prop} {ts : List Qg} {gs : List (Nat × Nat)}
theorem OK.keeps {A A' : Nat → Prop} {x : Qg} {g : Nat × Nat} (h : OK w A x g) (hA : ∀ g, A g → A' g) (hk : J0 A w w') (h1 : w'.heap[g.1]? = w.heap[g.1]?) (h2 : w'.heap[g.2]? = w.heap[g.2]?) : OK w' A' x g := by
  obtain ⟨⟨c, S, e1, l1, m1, n1, d1, r1⟩, c2, C, e2, l2, m2, n2, r2⟩ := h
  exact ⟨⟨c, S, e1, l1, m1, n1, d1, r1.keeps hA hk h1⟩, c2, C, e2, l2, m2, n2, r2.keeps hA hk h2⟩
theorem OK.lt {A : Nat → Prop} {x : Qg} {g : Nat × Nat} (h : OK w A x g) : g.1 < w.heap.size ∧ g.2 < w.heap.size := by
  obtain ⟨⟨c, S, e1, l1, m1, n1, d1, r1⟩, c2, C, e2, l2, m2, n2, r2⟩ := h
  exact ⟨r1.lt, r2.lt⟩
theorem DX.at {A O : Nat → Prop} (h : DX w A O lo ts gs) {g : Nat × Nat} (hg : g ∈ gs) : ∃ x ∈ ts, OK w A x g := by
  obtain ⟨k, hk, rfl⟩ := List.getElem_of_mem hg
  have hl : k < ts.length := by rw [← h.len]; exact hk
  exact ⟨ts[k], List.getElem_mem hl, h.els k _ _ (List.getElem?_eq_getElem hl) (List.getElem?_eq_getElem hk)⟩
theorem DX.lt {A O : Nat → Prop} (h : DX w A O lo ts gs) {x : Nat} (hx : x ∈ It gs) : x < w.heap.size := by
  obtain ⟨g, hg, hx⟩ := V4.1 hx
  obtain ⟨y, hy, he⟩ := h.at hg
  have := he.lt
  rcases hx with rfl | rfl
  · exact this.1
  · exact this.2
theorem DX.lv (h : DX w cx.A (Own cx st) lo ts gs) (hl : Lv X cx st w cx' st' w') (hX : ∀ x ∈ It gs, ¬ X x) : DX w' cx'.A (Own cx' st') lo ts gs := by
  have hk : J0 cx.A w w' := ⟨hl.sz, hl.keepA⟩
  have hs : ∀ x ∈ It gs, w'.heap[x]? = w.heap[x]? := fun x hx => hl.kept x (h.lt hx) (h.off x hx).2.1 (hX x hx)
  refine ⟨h.len, fun k x g hx hg => ?_, h.nd, fun x hx => ⟨fun hA => ?_, fun hO => ?_, (h.off x hx).2.2⟩⟩
  · have hm := List.mem_of_getElem? hg
    exact (h.els k x g hx hg).keeps hl.A hk (hs _ (V4.2 ⟨g, hm, .inl rfl⟩)) (hs _ (V4.2 ⟨g, hm, .inr rfl⟩))
  · have := h.lt hx
    rcases hl.A' x hA with h1 | h1 | h1
    · exact (h.off x hx).1 h1
    · omega
    · exact (h.off x hx).2.1 h1
  · have := h.lt hx
    rcases hl.own x hO with h1 | h1
    · omega
    · exact (h.off x hx).2.1 h1
theorem Fr.lv (h : Fr w0 A0 w cx st) (hl : Lv X cx st w cx' st' w') (hX : ∀ x, X x → w0.heap.size ≤ x) : Fr w0 A0 w' cx' st' := by
  have hs := h.sz
  refine ⟨Nat.le_trans h.sz hl.sz, fun g hg => ?_, fun g hg => hl.A g (h.A g hg), fun g hg => ?_, fun g hg => ?_, hl.os.trans h.os, hl.tape.trans h.tape, hl.output.trans h.output⟩
  · rw [hl.kept g (by omega) (fun ho => by have := h.own g ho; omega) (fun hx => by have := hX g hx; omega)]
    exact h.kept g hg
  · rcases hl.A' g hg with h1 | h1 | h1
    · exact h.A' g h1
    · exact .inr (by omega)
    · exact .inr (h.own g h1)
  · rcases hl.own g hg with h1 | h1
    · omega
    · exact h.own g h1
def JI (w0 : World) (A0 : Nat → Prop) (N : Nat) (st : St) (ts : List Qg) (gs : List (Nat × Nat)) (a : Act) (w : World) : Prop :=
  ∃ E cx, ZV E N cx st a w ∧ DX w cx.A (Own cx st) (fun x => w0.heap.size ≤ x) ts gs ∧ Fr w0 A0 w cx st
theorem Iu {c : Code} {Q : Exit → St → Prop} (h : ∀ E, AW E N P c Q st) (hj : JI w0 A0 N st ts gs a w) (hm : st.mu = true) : c.wp P (fun e a' w' => ∃ st', Q e st' ∧ JI w0 A0 N st' ts gs a' w') a w := by
  obtain ⟨E, cx, hr, hi, hf⟩ := hj
  refine wp_mono (j_aw h hr hm) ?_
  rintro e a' w' ⟨st', cx', E', hq, hr', hl⟩
  exact ⟨st', hq, E', cx', hr', hi.lv hl (fun _ _ h => h), hf.lv hl (fun _ h => h.elim)⟩
theorem DY {x y : Code} {Q : Exit → Act → World → Prop} {st' : St} (h : ∀ E, AW E N P x (fun e s => e = .normal ∧ s = st') st) (hj : JI w0 A0 N st ts gs a w) (hm : st.mu = true) (k : ∀ a' w', JI w0 A0 N st' ts gs a' w' → y.wp P Q a' w') : (Code.seq x y).wp P Q a w := by
  refine wp_seq (wp_mono (Iu h hj hm) ?_)
  rintro e a' w' ⟨st2, ⟨rfl, rfl⟩, hj'⟩
  exact k a' w' hj'
theorem Ad {c : Code} {Q Q' : Exit → St → Prop} (h : AW E N P c Q st) (hq : ∀ e s, Q e s → ∃ s', QB s s' ∧ Q' e s') : AW E N P c Q' st := fun cx a w hr => wp_mono (h cx a w hr) fun e a' w' ⟨st', cx', h1, h2⟩ => by
  obtain ⟨s', h3, h4⟩ := hq e st' h1
  obtain ⟨cx2, h5⟩ := h3 E N cx' a' w' h2
  exact ⟨s', cx2, h4, h5⟩
theorem NI {fn : Func} {avs : List AV} {vs : Array Value} {A : Nat → Prop} {g q : Nat} (hN : fn.ntmps = N) (hN2 : Nat.ble N 65536 = true) (hl : avs.length ≤ N) (hn : avs.any AV.isRef = false) (hA : ∀ x, A x → x < w.heap.size) (hR : Mx w A (fun _ => none) g q avs vs.toList) :
    ZV ⟨w, A, fun _ => False, fun _ => none⟩ N ⟨fun _ => none, A⟩ ⟨Hw 0 avs, []⟩ { tmps := vs ++ Array.replicate (fn.ntmps - vs.size) undef, defers := [] } w := by
  obtain ⟨hvl, hfr⟩ := LD (cx := ⟨fun _ => none, A⟩) (h := (⟨Hw 0 avs, []⟩ : St).h) (j := 0) hn hR
  have hsz : vs.size = avs.length := by simpa using hvl
  refine ⟨rfl, by simp; omega, fun s => ?_, fun b bk hb => ?_, fun b b' g o g' o' hb => ?_, fun b g o hb => ?_, fun x hx => ⟨hA x hx, .inl hx⟩, fun x hx => hx, fun _ _ _ => rfl, Nat.le_refl _, rfl, rfl, rfl, Nat.le_of_ble_eq_true hN2, fun _ _ => rfl⟩
  · have e : (⟨Hw 0 avs, []⟩ : St).g s = (ZC (Hw 0 avs) s).getD (.c .any) := rfl
    rw [e]
    cases hl : ZC (Hw 0 avs) s with
    | none => exact ⟨.inl rfl, trivial⟩
    | some t =>
      obtain ⟨i, v, h1, h2, h3⟩ := hfr s t hl
      rw [Nat.zero_add] at h1
      subst h1
      have hi := (List.getElem?_eq_some_iff.1 h2).1
      have : (vs ++ Array.replicate (fn.ntmps - vs.size) undef).getD s undef = v := by
        rw [Array.getD_eq_getD_getElem?, Array.getElem?_append_left (by simpa using hi)]
        rw [Array.getElem?_toList] at h2
        rw [h2]; rfl
      show RT _ w _ _ ((vs ++ Array.replicate (fn.ntmps - vs.size) undef).getD s undef)
      rw [this]
      exact h3
  · cases hb
  · exact absurd rfl hb
  · exact absurd rfl hb
theorem Lm {gs : List (Nat × Nat)} {g : Nat × Nat} : It (gs ++ [g]) = It gs ++ [g.1, g.2] := by simp [It]
theorem DX.snoc {A O lo : Nat → Prop} {x : Qg} {g : Nat × Nat} (h : DX w A O lo ts gs) (he : OK w A x g) (hne : g.1 ≠ g.2) (h1 : g.1 ∉ It gs) (h2 : g.2 ∉ It gs) (ho : ∀ y, y = g.1 ∨ y = g.2 → ¬ A y ∧ ¬ O y ∧ lo y) : DX w A O lo (ts ++ [x]) (gs ++ [g]) := by
  refine ⟨by simp [h.len], fun k y g' hy hg' => ?_, ?_, fun y hy => ?_⟩
  · by_cases hk : k < ts.length
    · rw [List.getElem?_append_left hk] at hy
      rw [List.getElem?_append_left (by rw [h.len]; exact hk)] at hg'
      exact h.els k y g' hy hg'
    · have hk2 : k = ts.length := by
        have := (List.getElem?_eq_some_iff.1 hy).1
        simp at this; omega
      subst hk2
      simp at hy
      rw [show (gs ++ [g])[ts.length]? = some g by rw [← h.len]; simp] at hg'
      cases hg'; subst hy; exact he
  · refine ⟨fun g' hg' => ?_, fun k k' a b ha hb hk => ?_⟩
    · rcases List.mem_append.1 hg' with h3 | h3
      · exact h.nd.1 g' h3
      · rw [List.mem_singleton.1 h3]; exact hne
    · have hin : ∀ (k : Nat) a, (gs ++ [g])[k]? = some a → (k < gs.length ∧ gs[k]? = some a) ∨ (k = gs.length ∧ a = g) := by
        intro k a ha
        by_cases hk : k < gs.length
        · rw [List.getElem?_append_left hk] at ha; exact .inl ⟨hk, ha⟩
        · have hl := (List.getElem?_eq_some_iff.1 ha).1
          simp at hl
          have : k = gs.length := by omega
          subst this
          simp at ha
          exact .inr ⟨rfl, ha.symm⟩
      have hout : ∀ (k : Nat) a, gs[k]? = some a → a.1 ≠ g.1 ∧ a.1 ≠ g.2 ∧ a.2 ≠ g.1 ∧ a.2 ≠ g.2 := by
        intro k a ha
        have hm := List.mem_of_getElem? ha
        refine ⟨fun e => h1 (e ▸ V4.2 ⟨a, hm, .inl rfl⟩), fun e => h2 (e ▸ V4.2 ⟨a, hm, .inl rfl⟩), fun e => h1 (e ▸ V4.2 ⟨a, hm, .inr rfl⟩), fun e => h2 (e ▸ V4.2 ⟨a, hm, .inr rfl⟩)⟩
      rcases hin k a ha with ⟨l1, h3⟩ | ⟨l1, rfl⟩ <;> rcases hin k' b hb with ⟨l2, h4⟩ | ⟨l2, rfl⟩
      · exact h.nd.2 k k' a b h3 h4 hk
      · exact hout k a h3
      · have := hout k' b h4
        exact ⟨Ne.symm this.1, Ne.symm this.2.2.1, Ne.symm this.2.1, Ne.symm this.2.2.2⟩
      · exact absurd (l1.trans l2.symm) hk
  · rw [Lm, List.mem_append] at hy
    rcases hy with hy | hy
    · exact h.off y hy
    · exact ho y (by simpa using hy)
theorem OL {c : Code} {st2 : St} (hj : JI w0 A0 N st ts gs a w) (hm : st.mu = true) (hf : W3 Jf st = true) (hf2 : W3 Jf st2 = true) {k : Nat} {x : Qg} (hx : ts[k]? = some x)
    (h : ∀ E g cp S, x.f7 = .slice (some ⟨g, 0, none⟩) 4 cp → 4 ≤ cp → S.length = 4 → GdS S → E.pin Jf = some (g, 0) → AW E N P c (fun e s => e = .normal ∧ ∃ S', S'.length = 4 ∧ GdS S' ∧ s = ⟨st2.fr, (Jf, some (.row 3 (List.map QF S') true)) :: st2.H⟩) ⟨st.fr, (Jf, some (.row 3 (List.map QF S) true)) :: st.H⟩) :
    c.wp P (fun e a' w' => e = .normal ∧ JI w0 A0 N st2 ts gs a' w') a w := by
  obtain ⟨E, cx, hr, hi, hfr⟩ := hj
  have hkl : k < gs.length := by rw [hi.len]; exact (List.getElem?_eq_some_iff.1 hx).1
  have hg : gs[k]? = some gs[k] := List.getElem?_eq_getElem hkl
  generalize gs[k] = g at hg
  have hgm := List.mem_of_getElem? hg
  obtain ⟨⟨cp, S, e1, l1, m1, n1, d1, r1⟩, hcur⟩ := hi.els k x g hx hg
  have hoff := hi.off g.1 (V4.2 ⟨g, hgm, .inl rfl⟩)
  refine wp_mono (P5 (fun E hp => h E g.1 cp S e1 l1 n1 d1 hp) hr hm hf r1 hoff.1 hoff.2.1 ?_) ?_
  · rintro ex st' ⟨rfl, S', h1, h2, rfl⟩
    exact ⟨st2, _, rfl, hf2⟩
  rintro ex a' w' ⟨st3, cx', E', rows', ⟨rfl, S', h1, h2, h3⟩, hr', hl, r2, n2, o2⟩
  simp only [St.mk.injEq, List.cons.injEq, Prod.mk.injEq, Option.some.injEq, Bk.row.injEq, true_and, and_true] at h3
  obtain ⟨h4, h5, h6⟩ := h3
  have h7 : st3 = st2 := by cases st3; cases st2; simp_all
  subst h7 h5
  have hk : J0 cx.A w w' := ⟨hl.sz, hl.keepA⟩
  have hs : ∀ y ∈ It gs, y ≠ g.1 → w'.heap[y]? = w.heap[y]? := fun y hy hne => hl.kept y (hi.lt hy) (hi.off y hy).2.1 hne
  refine ⟨rfl, E', cx', hr', ⟨hi.len, fun k' x' g' hx' hg' => ?_, hi.nd, fun y hy => ⟨fun hA => ?_, fun hO => ?_, (hi.off y hy).2.2⟩⟩, hfr.lv hl (fun y hy => hy ▸ hoff.2.2)⟩
  · have hm' := List.mem_of_getElem? hg'
    by_cases hkk : k' = k
    · subst hkk
      rw [hx] at hx'; cases hx'
      rw [hg] at hg'; cases hg'
      obtain ⟨c2, C, e3, l3, m3, n3, r3⟩ := hcur
      exact ⟨⟨cp, S', e1, l1, m1, h1, h2, r2⟩, c2, C, e3, l3, m3, n3, r3.keeps hl.A hk (hs _ (V4.2 ⟨g, hgm, .inr rfl⟩) (Ne.symm (hi.nd.1 g hgm)))⟩
    · have := hi.nd.2 k k' g g' hg hg' (Ne.symm hkk)
      exact (hi.els k' x' g' hx' hg').keeps hl.A hk (hs _ (V4.2 ⟨g', hm', .inl rfl⟩) (Ne.symm this.1)) (hs _ (V4.2 ⟨g', hm', .inr rfl⟩) (Ne.symm this.2.1))
  · have := hi.lt hy
    rcases hl.A' y hA with h8 | h8 | h8
    · exact (hi.off y hy).1 h8
    · omega
    · exact (hi.off y hy).2.1 h8
  · have := hi.lt hy
    rcases hl.own y hO with h8 | h8
    · omega
    · exact (hi.off y hy).2.1 h8
theorem OM {c : Code} {st2 : St} (hj : JI w0 A0 N st ts gs a w) (hm : st.mu = true) (hf : W3 Jf st = true) (hf2 : W3 Jf st2 = true) {k : Nat} {x : Qg} (hx : ts[k]? = some x)
    (h : ∀ E g cp C, x.fa5 = .slice (some ⟨g, 0, none⟩) 4 cp → 4 ≤ cp → C.length = 4 → E.pin Jf = some (g, 0) → AW E N P c (fun e s => e = .normal ∧ ∃ C', C'.length = 4 ∧ s = ⟨st2.fr, (Jf, some (.row 4 (List.map QY C') true)) :: st2.H⟩) ⟨st.fr, (Jf, some (.row 4 (List.map QY C) true)) :: st.H⟩) :
    c.wp P (fun e a' w' => e = .normal ∧ JI w0 A0 N st2 ts gs a' w') a w := by
  obtain ⟨E, cx, hr, hi, hfr⟩ := hj
  have hkl : k < gs.length := by rw [hi.len]; exact (List.getElem?_eq_some_iff.1 hx).1
  have hg : gs[k]? = some gs[k] := List.getElem?_eq_getElem hkl
  generalize gs[k] = g at hg
  have hgm := List.mem_of_getElem? hg
  obtain ⟨⟨cs, S, e3, l3, m3, n3, d3, r3⟩, cp, C, e1, l1, m1, n1, r1⟩ := hi.els k x g hx hg
  have hoff := hi.off g.2 (V4.2 ⟨g, hgm, .inr rfl⟩)
  refine wp_mono (P5 (fun E hp => h E g.2 cp C e1 l1 n1 hp) hr hm hf r1 hoff.1 hoff.2.1 ?_) ?_
  · rintro ex st' ⟨rfl, C', h1, rfl⟩
    exact ⟨st2, _, rfl, hf2⟩
  rintro ex a' w' ⟨st3, cx', E', rows', ⟨rfl, C', h1, h3⟩, hr', hl, r2, n2, o2⟩
  simp only [St.mk.injEq, List.cons.injEq, Prod.mk.injEq, Option.some.injEq, Bk.row.injEq, true_and, and_true] at h3
  obtain ⟨h4, h5, h6⟩ := h3
  have h7 : st3 = st2 := by cases st3; cases st2; simp_all
  subst h7 h5
  have hk : J0 cx.A w w' := ⟨hl.sz, hl.keepA⟩
  have hs : ∀ y ∈ It gs, y ≠ g.2 → w'.heap[y]? = w.heap[y]? := fun y hy hne => hl.kept y (hi.lt hy) (hi.off y hy).2.1 hne
  refine ⟨rfl, E', cx', hr', ⟨hi.len, fun k' x' g' hx' hg' => ?_, hi.nd, fun y hy => ⟨fun hA => ?_, fun hO => ?_, (hi.off y hy).2.2⟩⟩, hfr.lv hl (fun y hy => hy ▸ hoff.2.2)⟩
  · have hm' := List.mem_of_getElem? hg'
    by_cases hkk : k' = k
    · subst hkk
      rw [hx] at hx'; cases hx'
      rw [hg] at hg'; cases hg'
      exact ⟨⟨cs, S, e3, l3, m3, n3, d3, r3.keeps hl.A hk (hs _ (V4.2 ⟨g, hgm, .inl rfl⟩) (hi.nd.1 g hgm))⟩, cp, C', e1, l1, m1, h1, r2⟩
    · have := hi.nd.2 k k' g g' hg hg' (Ne.symm hkk)
      exact (hi.els k' x' g' hx' hg').keeps hl.A hk (hs _ (V4.2 ⟨g', hm', .inl rfl⟩) (Ne.symm this.2.2.1)) (hs _ (V4.2 ⟨g', hm', .inr rfl⟩) (Ne.symm this.2.2.2))
  · have := hi.lt hy
    rcases hl.A' y hA with h8 | h8 | h8
    · exact (hi.off y hy).1 h8
    · omega
    · exact (hi.off y hy).2.1 h8
  · have := hi.lt hy
    rcases hl.own y hO with h8 | h8
    · omega
    · exact (hi.off y hy).2.1 h8
end
set_option maxRecDepth 100000
set_option maxHeartbeats 4000000
section
variable {a : Act} {w w0 : World} {A0 : Nat → Prop} {n i : Int} {ts : List Qg} {gs : List (Nat × Nat)}
theorem ji_r7 (hl : ts.length ≤ 64) (hj : JI w0 A0 nN (qF n i ts) ts gs a w) : (Code.region 7 Cs true).wp Tryz.prog (fun e a' w' => e = .normal ∧ ∃ v1 v2 g, JI w0 A0 nN (qF n i (ts ++ [Dp v1 v2])) (ts ++ [Dp v1 v2]) (gs ++ [g]) a' w') a w := by
  obtain ⟨E, cx, hr, hi, hf⟩ := hj
  have hm : (qF n i ts).mu = true := rfl
  have hb := hr.drew.base
  have hi1 := hi.lv LZ (fun _ _ h => h)
  have hf1 := hf.lv LZ (fun _ h => h.elim)
  refine wp_region_any mixed (r7_0 (n := n) (i := i) (ts := ts) hl ?_ hb)
  rintro a3 w3 cx3 v1 v2 ⟨h3, g, he, hne, ho⟩ a' w' cx' hfin
  have l1 := Dg hr.drew hm h3
  have hi3 := hi1.lv l1 (fun _ _ h => h)
  have hf3 := hf1.lv l1 (fun _ h => h.elim)
  have hnot : ∀ x, x = g.1 ∨ x = g.2 → x ∉ It gs := fun x hx hm2 => by
    rcases (ho x hx).2.2 with h4 | h4
    · have := hi1.lt hm2; exact absurd this (Nat.not_lt.2 h4)
    · exact (hi1.off x hm2).2.1 h4
  have hho : ∀ y, y = g.1 ∨ y = g.2 → ¬ cx3.A y ∧ ¬ Own cx3 (qF n i ts) y ∧ w0.heap.size ≤ y := by
    intro y hy
    refine ⟨(ho y hy).1, (ho y hy).2.1, ?_⟩
    rcases (ho y hy).2.2 with h4 | h4
    · exact Nat.le_trans hf1.sz h4
    · exact hf1.own y h4
  have hi4 := hi3.snoc he hne (hnot _ (.inl rfl)) (hnot _ (.inr rfl)) hho
  have l2 := Dg h3 hm hfin
  exact ⟨rfl, v1, v2, g, _, cx', hfin, hi4.lv l2 (fun _ _ h => h), hf3.lv l2 (fun _ h => h.elim)⟩
def R2 (w0 : World) (A0 : Nat → Prop) (w : World) (v : Value) (ts : List Qg) : Prop :=
  ∃ (A : Nat → Prop) (g c : Nat) (gs : List (Nat × Nat)), v = .slice (some ⟨g, 0, none⟩) ts.length c ∧ ts.length ≤ c ∧ c ≤ maxLen ∧ Ua w A g 97 (List.map Z9 ts) ∧ ¬ A g ∧ (∃ cc el, w.heap[g]? = some (.cells cc el (0, 0)) ∧ cc.size = c * 97) ∧
    DX w A (· = g) (fun x => w0.heap.size ≤ x) ts gs ∧ w0.heap.size ≤ g ∧ w0.heap.size ≤ w.heap.size ∧ (∀ g, g < w0.heap.size → w.heap[g]? = w0.heap[g]?) ∧ (∀ g, A0 g → A g) ∧ (∀ g, A g → g < w.heap.size ∧ (A0 g ∨ w0.heap.size ≤ g)) ∧ w.os = w0.os ∧ w.tape = w0.tape ∧ w.output = w0.output
theorem ON (hA : ∀ x, A0 x → x < w0.heap.size) (hn1 : 1 ≤ n) (hn2 : n ≤ 4) : Calls Tryz.prog 20 #[.int .i64 n] w0 fun e w => ∃ v ts, e = .returned (.tuple #[v, .int .i64 0]) ∧ (ts.length : Int) = n ∧ (∀ x ∈ ts, ∃ v1 v2, x = Dp v1 v2) ∧ R2 w0 A0 w v ts := by
  refine calls_of_wp Tryz.func20 rfl ?_
  have hwf : KC (.int .i64 n) = true := by
    simp [KC, Lit.wf, IntKind.min, IntKind.max, IntKind.signed, IntKind.bits]; omega
  have hr0 : ZV ⟨w0, A0, fun _ => False, fun _ => none⟩ nN ⟨fun _ => none, A0⟩ ⟨[(0, .c (.p (.v (.int .i64 n))))], []⟩ { tmps := #[Value.int .i64 n] ++ Array.replicate (nN - (#[Value.int .i64 n] : Array Value).size) undef, defers := [] } w0 :=
    NI (fn := Tryz.f20) (avs := [.c (.v (.int .i64 n))]) (g := 0) (q := 0) rfl (by kernel_rfl) (Nat.le_of_ble_eq_true (by kernel_rfl)) rfl hA ⟨.v _ hwf, trivial⟩
  have hj0 : JI w0 A0 nN ⟨[(0, .c (.p (.v (.int .i64 n))))], []⟩ [] [] { tmps := #[Value.int .i64 n] ++ Array.replicate (nN - (#[Value.int .i64 n] : Array Value).size) undef, defers := [] } w0 :=
    ⟨_, _, hr0, ⟨rfl, fun k x g hx => by simp at hx, ⟨fun g hg => by simp at hg, fun k k2 g g2 hg => by simp at hg⟩, fun x hx => by simp [It] at hx⟩, ⟨Nat.le_refl _, fun _ _ => rfl, fun _ h => h, fun _ h => .inl h, fun g ⟨b, q, hb, _⟩ => absurd rfl hb, rfl, rfl, rfl⟩⟩
  refine DY (fun E => tE rfl ⟨rfl, rfl⟩) hj0 rfl fun a1 w1 hj1 => ?_
  refine DY (st' := ⟨[(0, .c (.p (.v (.int .i64 n))))], []⟩) (fun E => ?_) hj1 rfl fun a2 w2 hj2 => ?_
  · refine tk fun L hL => ?_
    refine dN 3 rfl ?_
    refine Q2 rfl rfl Q4 (fun hg => Qd rfl rfl) ?_
    refine Q2 rfl rfl Q4 (fun hg => Qz (c := decide (n > 64)) (Qb hg) rfl rfl rfl rfl) ?_
    refine u0 (Qm (v := .bool (true)) (w := .bool (decide (n > 64))) rfl rfl Q4 rfl Qw) ?_
    refine rt (hL _ ?_)
    refine Yg (b := (bif decide (n < 1) then true else decide (n > 64))) rfl rfl (fun h => ?_) fun h => ?_
    · have h1 : decide (n < 1) = false := by simp; omega
      have h2 : decide (n > 64) = false := by simp; omega
      rw [h1, h2] at h
      cases h
    · refine QS (st' := ⟨[(0, .c (.p (.v (.int .i64 n))))], []⟩) QB.fit ?_
      exact Qi ⟨rfl, rfl⟩
  refine DY (fun E => tE rfl ⟨rfl, rfl⟩) hj2 rfl fun a3 w3 hj3 => ?_
  refine wp_seq ?_
  refine DY (st' := qF n 0 []) (fun E => ?_) hj3 rfl fun a4 w4 hj4 => ?_
  · refine Ad (Q := fun e s => e = .normal ∧ s = _) (tE rfl ⟨rfl, rfl⟩) ?_
    rintro e s ⟨rfl, rfl⟩
    exact ⟨_, (QB.blk (4, 1050) 97).trans ((QB.slot 4 rfl (.nilo (b := (4, 1050)) rfl)).trans (QB.nm [0, 4, 5] [((4, 1050), (4, 1000))] rfl (by kernel_rfl))), rfl, rfl⟩
  refine wp_block ?_
  refine Gw (fun k a w => ∃ (j : Nat) (ts : List Qg) (gs : List (Nat × Nat)), (j : Int) ≤ n ∧ ts.length = j ∧ k = n.toNat - j ∧ (∀ x ∈ ts, ∃ v1 v2, x = Dp v1 v2) ∧ JI w0 A0 nN (qF n (j : Int) ts) ts gs a w) ?_ (n.toNat - 0) _ _ ⟨0, [], [], by omega, rfl, rfl, fun x hx => by simp at hx, hj4⟩
  rintro k a w ⟨j, ts, gs, hjn, hlen, rfl, hz, hj⟩
  refine wp_seq ?_
  refine wp_mono (Iu (Q := fun e s => s = qF n (j : Int) ts ∧ ((e = .normal ∧ (j : Int) < n) ∨ (e = .exit 0 ∧ ¬ (j : Int) < n))) (fun E => ?_) hj rfl) ?_
  · refine tD rfl ?_
    refine Yg (b := decide ((j : Int) < n)) rfl rfl (fun h => ?_) fun h => ?_
    · refine QS (st' := qF n (j : Int) ts) QB.fit ?_
      exact Qi ⟨rfl, .inl ⟨rfl, by simpa using h⟩⟩
    · refine QS (st' := qF n (j : Int) ts) QB.fit ?_
      exact QT ⟨rfl, .inr ⟨rfl, by simpa using h⟩⟩
  rintro e a5 w5 ⟨st5, ⟨rfl, hcase⟩, hj5⟩
  rcases hcase with ⟨rfl, hlt⟩ | ⟨rfl, hge⟩
  · -- a round
    refine wp_seq (wp_block (wp_mono (ji_r7 (by omega) hj5) ?_))
    rintro e a6 w6 ⟨rfl, v1, v2, g, hj6⟩
    refine wp_mono (Iu (Q := fun e s => e = .normal ∧ s = qF n ((j + 1 : Nat) : Int) (ts ++ [Dp v1 v2])) (fun E => ?_) hj6 rfl) ?_
    · refine Ad (Q := fun e s => e = .normal ∧ s = _) (tE rfl ⟨rfl, rfl⟩) ?_
      rintro e s ⟨rfl, rfl⟩
      have hw : IntKind.i64.wrap ((j : Int) + 1) = ((j + 1 : Nat) : Int) := by rw [IntKind.wrap_i64]; omega
      refine ⟨⟨[(0, .c (.p (.v (.int .i64 n)))), (4, .c (.sl (4, 1000) 0 (XD (ts ++ [Dp v1 v2])))), (5, .c (.p (.v (.int .i64 (IntKind.i64.wrap ((j : Int) + 1))))))], [((4, 1000), some (Ye (ts ++ [Dp v1 v2])))]⟩, QB.fit, rfl, ?_⟩
      rw [hw]; rfl
    rintro e a7 w7 ⟨st7, ⟨rfl, rfl⟩, hj7⟩
    exact ⟨_, by omega, j + 1, ts ++ [Dp v1 v2], gs ++ [g], by omega, by simp [hlen], rfl, fun x hx => by
      rcases List.mem_append.1 hx with h | h
      · exact hz x h
      · exact ⟨v1, v2, by simpa using h⟩, hj7⟩
  · -- the end
    have hjn' : (j : Int) = n := by omega
    simp only [Exit.then, Exit.inBlock, if_true]
    refine DY (fun E => tE rfl ⟨rfl, rfl⟩) hj5 rfl fun a8 w8 hj8 => ?_
    refine wp_ret ?_
    obtain ⟨E, cx, hr, hi, hf⟩ := hj8
    have hpos : 0 < (List.map Z9 ts).length := by simp; omega
    obtain ⟨g, c, e1, l1, m1, i1, r1, n1⟩ := M0 hr (s := 2) (b := (4, 1000)) (e := 97) (rows := List.map Z9 ts) (m := XD ts) rfl rfl hpos (Nat.le_refl _)
    have e2 : a8.tmps.getD 3 undef = .int .i64 0 := by
      have h2 := (hr.fr 3).2
      revert h2
      generalize a8.tmps.getD 3 undef = z
      intro h2
      cases h2 with | v _ _ => rfl
    refine bodyPost_ret (results_tmp2 rfl _ _ _) hr.defers ⟨_, ts, by rw [e1, e2], by omega, hz, cx.A, g, c, gs, by simp [XD], by simpa [XD] using l1, m1, r1, n1, ?_, ?_, ?_, hf.sz, hf.kept, hf.A, fun x hx => ⟨(hr.A x hx).1, hf.A' x hx⟩, hf.os, hf.tape, hf.output⟩
    · have h2 := (hr.fr 2).2 (Ye ts) rfl
      obtain ⟨a', cap, h3, h4, h5, h6, h7⟩ := h2
      rcases h7 with h7 | ⟨g', cc, el, fz, h8, h9, h10, h11⟩
      · simp [XD] at h4; omega
      · rw [i1] at h8; cases h8
        rw [e1] at h3; cases h3
        obtain ⟨_, _, c2, el2, capR, h12, _⟩ := r1
        rw [h12] at h10; cases h10
        exact ⟨_, _, h12, by simpa [Bk.e] using h11 (by simp [Bk.e])⟩
    · exact ⟨hi.len, hi.els, hi.nd, fun x hx => ⟨(hi.off x hx).1, fun h => (hi.off x hx).2.1 ⟨(4, 1000), 0, (fun h => by cases h), h ▸ i1⟩, (hi.off x hx).2.2⟩⟩
    · exact hf.own g ⟨(4, 1000), 0, (fun h => by cases h), i1⟩
end
end Go.Proofs.YtpnpodbihdiegaaGreat
