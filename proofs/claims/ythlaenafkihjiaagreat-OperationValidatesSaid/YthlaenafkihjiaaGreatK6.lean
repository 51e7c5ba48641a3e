/- Parts of the proof, laid together. No condition. -/
import Derived.Test.YthlaenafkihjiaaGreatK5
import Derived.Laws.Bits64
namespace Go.Proofs.YthlaenafkihjiaaGreat
open Go.RowKit
set_option linter.unusedVariables false
set_option linter.unusedSimpArgs false
set_option maxRecDepth 100000
set_option maxHeartbeats 4000000
def YQ (a0 : (List Int)) (Q : (Int × Int × Int) → Prop) : Prop :=
 ((((((a0.length : Int)) == 0)) = true → Q (0, 0, 3)) ∧ (((((a0.length : Int)) == 0)) = false → ∃ (v3 : Int), ix a0 0 v3 ∧ (((decide (v3 < 248)) = true → ∃ (v4 : Int), ix a0 0 v4 ∧ Q ((IntKind.i64.wrap v4), 1, 0)) ∧ ((decide (v3 < 248)) = false → ∃ (v5 : Int), ix a0 0 v5 ∧ (((decide (((a0.length : Int)) < (IntKind.i64.wrap (1 + (IntKind.i64.wrap ((IntKind.i64.wrap ((IntKind.i64.wrap v5) - 248)) + 1)))))) = true → Q (0, 0, 3)) ∧ ((decide (((a0.length : Int)) < (IntKind.i64.wrap (1 + (IntKind.i64.wrap ((IntKind.i64.wrap ((IntKind.i64.wrap v5) - 248)) + 1)))))) = false → jn (fun (p7 : Int) => ∃ (v14 : Int), ix a0 1 v14 ∧ ((((bif (bif (v14 == 0) then true else decide (p7 < 248)) then true else decide (p7 > 4611686018427387904))) = true → Q (0, 0, 2)) ∧ (((bif (bif (v14 == 0) then true else decide (p7 < 248)) then true else decide (p7 > 4611686018427387904))) = false → Q ((IntKind.i64.wrap p7), (IntKind.i64.wrap (1 + (IntKind.i64.wrap ((IntKind.i64.wrap ((IntKind.i64.wrap v5) - 248)) + 1)))), 0)))) (fun (J7 : Int → Prop) => ((0 : Int) ≤ 1 ∧ (1 : Int) ≤ (IntKind.i64.wrap (1 + (IntKind.i64.wrap ((IntKind.i64.wrap ((IntKind.i64.wrap v5) - 248)) + 1)))) ∧ (IntKind.i64.wrap (1 + (IntKind.i64.wrap ((IntKind.i64.wrap ((IntKind.i64.wrap v5) - 248)) + 1))) : Int) ≤ (a0.length : Int)) ∧ lp (fun (X9 : Int × Int → Prop) (s9 : Int × Int) => (((decide (s9.2 < (((List.drop (Int.toNat 1) (List.take (Int.toNat (IntKind.i64.wrap (1 + (IntKind.i64.wrap ((IntKind.i64.wrap ((IntKind.i64.wrap v5) - 248)) + 1))))) a0)).length : Int)))) = true → ∃ (v12 : Int), ix (List.drop (Int.toNat 1) (List.take (Int.toNat (IntKind.i64.wrap (1 + (IntKind.i64.wrap ((IntKind.i64.wrap ((IntKind.i64.wrap v5) - 248)) + 1))))) a0)) s9.2 v12 ∧ X9 ((Nn .u64 (Va .u64 s9.1 8) (IntKind.u64.wrap v12)), (IntKind.i64.wrap (s9.2 + 1)))) ∧ ((decide (s9.2 < (((List.drop (Int.toNat 1) (List.take (Int.toNat (IntKind.i64.wrap (1 + (IntKind.i64.wrap ((IntKind.i64.wrap ((IntKind.i64.wrap v5) - 248)) + 1))))) a0)).length : Int)))) = false → J7 s9.1))) (0, 0))))))))
def KA (a0 : (List Int)) (r : Int × Int × Int) : Prop := YQ a0 fun x => r = x
theorem YR (a0 : (List Int)) (r : Int × Int × Int) (h : KA a0 r) : Qq Tryz.prog 70 [.c (.l 1 (List.map (eI .u8) a0))] [.c (.p (.v (.int .i64 r.1))), .c (.p (.v (.int .i64 r.2.1))), .c (.p (.v (.int .i64 r.2.2)))] [] := by
  refine Qo tb Tryz.func70 Z (by kernel_rfl) Z Z (Nat.le_of_ble_eq_true Z) Z ?_;intro E;unfold KA YQ at h;refine Zi (fun Q hQ => ?_);refine tk fun L hL => ?_;refine Qk Z Z ?_;refine Qk Z Z ?_;refine Qk Z Z ?_;refine rt (hL _ ?_);refine sk fun L1 hL1 => ?_;refine tk fun L hL => ?_;refine mv Z ?_;refine u0 (Qs Z Z Z Z) ?_;refine u0 (Q5 (c := (((a0.length : Int)) == 0)) Z Z Z Z Z) ?_;refine rt (hL _ ?_);refine Z4 Z h (fun h => ?_) fun h => ?_
  · refine tk fun L hL => ?_;refine Qk Z Z ?_;refine Qk Z Z ?_;refine Qk Z Z ?_;refine rt (hL _ ?_);obtain rfl := h;exact Q9 (hQ _ _ (LZ Z Z Z Z))
  · refine Qc (hL1 _ ?_);refine sk fun L2 hL2 => ?_;refine tk fun L hL => ?_;refine mv Z ?_;obtain ⟨v3, hv3, h⟩ := h;refine u0 (QD hv3 Z Z Z Z Z Z Z Z) ?_;refine u0 (Qv Z Z Z Z Z) ?_;refine u0 (Q5 (c := decide (v3 < 248)) Z Z Z Z Z) ?_;refine rt (hL _ ?_);refine Z4 Z h (fun h => ?_) fun h => ?_
    · refine tk fun L hL => ?_;refine mv Z ?_;obtain ⟨v4, hv4, h⟩ := h;refine u0 (QD hv4 Z Z Z Z Z Z Z Z) ?_;refine u0 (Qv Z Z Z Z Z) ?_;refine u0 (Z9 (T := tb) Z Z Z Z Z Z) ?_;refine Qk Z Z ?_;refine Qk Z Z ?_;refine Qk Z Z ?_;refine rt (hL _ ?_);obtain rfl := h;exact Q9 (hQ _ _ (LZ Z Z Z Z))
    · refine Qc (hL2 _ ?_);refine tk fun L hL => ?_;refine mv Z ?_;obtain ⟨v5, hv5, h⟩ := h;refine u0 (QD hv5 Z Z Z Z Z Z Z Z) ?_;refine u0 (Qv Z Z Z Z Z) ?_;refine u0 (Z9 (T := tb) Z Z Z Z Z Z) ?_;refine u0 (Zn Z Z Z Z Z) ?_;refine u0 (QJ Z Z Z Z Z) ?_;refine Qk Z Z ?_;refine rt (hL _ ?_);refine sk fun L6 hL6 => ?_;refine tk fun L hL => ?_;refine mv Z ?_;refine u0 (Qs Z Z Z Z) ?_;refine mv Z ?_;refine u0 (QJ Z Z Z Z Z) ?_;refine u0 (Q5 (c := decide (((a0.length : Int)) < (IntKind.i64.wrap (1 + (IntKind.i64.wrap ((IntKind.i64.wrap ((IntKind.i64.wrap v5) - 248)) + 1)))))) Z Z Z Z Z) ?_;refine rt (hL _ ?_);refine Z4 Z h (fun h => ?_) fun h => ?_
      · refine tk fun L hL => ?_;refine Qk Z Z ?_;refine Qk Z Z ?_;refine Qk Z Z ?_;refine rt (hL _ ?_);obtain rfl := h;exact Q9 (hQ _ _ (LZ Z Z Z Z))
      · refine Qc (hL6 _ ?_);refine tk fun L hL => ?_;refine Qk Z Z ?_;refine rt (hL _ ?_);refine Zj (fun (p7 : Int) => (⟨[(0, .c (.p (.l 1 (List.map (eI .u8) a0)))), (5, .c (.p (.v (.int .i64 (IntKind.i64.wrap ((IntKind.i64.wrap ((IntKind.i64.wrap v5) - 248)) + 1)))))), (6, .c (.p (.v (.int .u64 p7))))], []⟩ : St)) h (fun p7 h => ?_) (fun J7 L7 hL7 h => ?_)
        · refine sk fun L13 hL13 => ?_;refine tk fun L hL => ?_;refine mv Z ?_;obtain ⟨v14, hv14, h⟩ := h;refine u0 (QD hv14 Z Z Z Z Z Z Z Z) ?_;refine u0 (Qv Z Z Z Z Z) ?_;refine u0 (Q5 (c := (v14 == 0)) Z Z Z Z Z) ?_;refine mv Z ?_;refine Q4 Z Z Qh (fun hg => Qe Z Z) ?_;refine Q4 Z Z Qh (fun hg => Q5 (c := decide (p7 < 248)) (Qj hg) Z Z Z Z) ?_;refine u0 (Qt (v := .bool true) (w := .bool (decide (p7 < 248))) Z Z Qh Z QF Z Z Z) ?_;refine mv Z ?_;refine Q4 Z Z Qh (fun hg => Qe Z Z) ?_;refine Q4 Z Z Qh (fun hg => Q5 (c := decide (p7 > 4611686018427387904)) (Qj hg) Z Z Z Z) ?_;refine u0 (Qt (v := .bool true) (w := .bool (decide (p7 > 4611686018427387904))) Z Z Qh Z QF Z Z Z) ?_;refine rt (hL _ ?_);refine Z4 Z h (fun h => ?_) fun h => ?_
          · refine tk fun L hL => ?_;refine Qk Z Z ?_;refine Qk Z Z ?_;refine Qk Z Z ?_;refine rt (hL _ ?_);obtain rfl := h;exact Q9 (hQ _ _ (LZ Z Z Z Z))
          · refine Qc (hL13 _ ?_);refine Zc (st' := ⟨[(5, .c (.p (.v (.int .i64 (IntKind.i64.wrap ((IntKind.i64.wrap ((IntKind.i64.wrap v5) - 248)) + 1)))))), (6, .c (.p (.v (.int .u64 p7))))], []⟩) (QO.nm [5, 6] [] Z Z) ?_;refine tk fun L hL => ?_;refine mv Z ?_;refine u0 (Z9 (T := tb) Z Z Z Z Z Z) ?_;refine mv Z ?_;refine u0 (QJ Z Z Z Z Z) ?_;refine Qk Z Z ?_;refine Qk Z Z ?_;refine Qk Z Z ?_;refine rt (hL _ ?_);obtain rfl := h;exact Q9 (hQ _ _ (LZ Z Z Z Z))
        · refine tk fun L hL => ?_;refine mv Z ?_;refine mv Z ?_;refine u0 (QJ Z Z Z Z Z) ?_;obtain ⟨hm8, h⟩ := h;refine u0 (Y9 hm8 Z Z Z Z Z Z Z Z Z Z) ?_;refine u0 (Qs Z Z Z Z) ?_;refine u0 (Qe Z Z) ?_;refine rt (hL _ ?_);refine Qp ?_;refine ZA (fun (s9 : Int × Int) => (⟨[(0, .c (.p (.l 1 (List.map (eI .u8) a0)))), (5, .c (.p (.v (.int .i64 (IntKind.i64.wrap ((IntKind.i64.wrap ((IntKind.i64.wrap v5) - 248)) + 1)))))), (6, .c (.p (.v (.int .u64 s9.1)))), (34, .c (.p (.l 1 (List.map (eI .u8) (List.drop (Int.toNat 1) (List.take (Int.toNat (IntKind.i64.wrap (1 + (IntKind.i64.wrap ((IntKind.i64.wrap ((IntKind.i64.wrap v5) - 248)) + 1))))) a0)))))), (35, .c (.p (.v (.int .i64 (((List.drop (Int.toNat 1) (List.take (Int.toNat (IntKind.i64.wrap (1 + (IntKind.i64.wrap ((IntKind.i64.wrap ((IntKind.i64.wrap v5) - 248)) + 1))))) a0)).length : Int)))))), (36, .c (.p (.v (.int .i64 s9.2))))], []⟩ : St)) h (QO.nm [0, 5, 6, 34, 35, 36] [] Z (by kernel_rfl)) (fun X9 L9 hL9 s9 h => ?_);refine tk fun L hL => ?_;refine u0 (Q5 (c := decide (s9.2 < (((List.drop (Int.toNat 1) (List.take (Int.toNat (IntKind.i64.wrap (1 + (IntKind.i64.wrap ((IntKind.i64.wrap ((IntKind.i64.wrap v5) - 248)) + 1))))) a0)).length : Int)))) Z Z Z Z Z) ?_
          refine rt (hL _ ?_);refine sk fun L10 hL10 => ?_;refine Z4 Z h (fun h => ?_) fun h => ?_
          · refine Qc (hL10 _ ?_);refine sk fun L11 hL11 => ?_;refine Qp ?_;refine tk fun L hL => ?_;obtain ⟨v12, hv12, h⟩ := h;refine u0 (QD hv12 Z Z Z Z Z Z Z Z) ?_;refine u0 (Qv Z Z Z Z Z) ?_;refine Qk Z Z ?_;refine rt (hL _ ?_);refine tl fun L hL => ?_;refine mv Z ?_;refine u0 (D6 (by decide) Z Z Z Z) ?_;refine mv Z ?_;refine u0 (Z9 (T := tb) Z Z Z Z Z Z) ?_;refine u0 (Z1 (z := .int .u64 (Nn .u64 (Va .u64 s9.1 8) (IntKind.u64.wrap v12))) Z Z Z Z Z) ?_;refine Qk Z Z ?_;refine rt (hL _ (hL11 _ ?_));refine tl fun L hL => ?_;refine u0 (QJ Z Z Z Z Z) ?_;refine mv Z ?_;refine rt (hL _ (hL9 _ _ h (QO.nm [0, 5, 6, 34, 35, 36] [] Z (by kernel_rfl))))
          · refine Z6 (hL7 _ _ h (QO.nm [0, 5, 6] [] Z (by kernel_rfl)))
def U2 (a0 : (List Int)) (Q : (Int × (List Int) × Int × Int) → Prop) : Prop :=
 ((((((a0.length : Int)) == 0)) = true → Q (0, ([] : (List Int)), 0, 3)) ∧ (((((a0.length : Int)) == 0)) = false → ((0 : Int) ≤ 1 ∧ (1 : Int) ≤ (a0.length : Int)) ∧ ∃ (v3 : Int × Int × Int), KA (List.drop (Int.toNat 1) a0) v3 ∧ ((((v3.2.2 != 0)) = true → Q (0, ([] : (List Int)), 0, v3.2.2)) ∧ (((v3.2.2 != 0)) = false → (((decide (v3.1 > 1048576)) = true → Q (0, ([] : (List Int)), 0, 2)) ∧ ((decide (v3.1 > 1048576)) = false → (((decide (((a0.length : Int)) < (IntKind.i64.wrap ((IntKind.i64.wrap ((IntKind.i64.wrap (1 + v3.2.1)) + v3.1)) + 4)))) = true → Q (0, ([] : (List Int)), 0, 3)) ∧ ((decide (((a0.length : Int)) < (IntKind.i64.wrap ((IntKind.i64.wrap ((IntKind.i64.wrap (1 + v3.2.1)) + v3.1)) + 4)))) = false → jn (fun (p5 : Int) => ((0 : Int) ≤ (IntKind.i64.wrap ((IntKind.i64.wrap (1 + v3.2.1)) + v3.1)) ∧ (IntKind.i64.wrap ((IntKind.i64.wrap (1 + v3.2.1)) + v3.1) : Int) ≤ (a0.length : Int)) ∧ ∃ (v13 : Int), JV (List.take (Int.toNat (IntKind.i64.wrap ((IntKind.i64.wrap (1 + v3.2.1)) + v3.1))) a0) v13 ∧ ((((p5 != v13)) = true → Q (0, ([] : (List Int)), 0, 4)) ∧ (((p5 != v13)) = false → ∃ (v14 : Int), ix a0 0 v14 ∧ ((0 : Int) ≤ (IntKind.i64.wrap (1 + v3.2.1)) ∧ (IntKind.i64.wrap (1 + v3.2.1) : Int) ≤ (IntKind.i64.wrap ((IntKind.i64.wrap (1 + v3.2.1)) + v3.1)) ∧ (IntKind.i64.wrap ((IntKind.i64.wrap (1 + v3.2.1)) + v3.1) : Int) ≤ (a0.length : Int)) ∧ (((([] : List Int)).length + (List.drop (Int.toNat (IntKind.i64.wrap (1 + v3.2.1))) (List.take (Int.toNat (IntKind.i64.wrap ((IntKind.i64.wrap (1 + v3.2.1)) + v3.1))) a0)).length) * 1 ≤ 140737488355328) ∧ Q (v14, ((([] : List Int)) ++ (List.drop (Int.toNat (IntKind.i64.wrap (1 + v3.2.1))) (List.take (Int.toNat (IntKind.i64.wrap ((IntKind.i64.wrap (1 + v3.2.1)) + v3.1))) a0))), (IntKind.i64.wrap ((IntKind.i64.wrap ((IntKind.i64.wrap (1 + v3.2.1)) + v3.1)) + 4)), 0)))) (fun (J5 : Int → Prop) => ((0 : Int) ≤ (IntKind.i64.wrap ((IntKind.i64.wrap (1 + v3.2.1)) + v3.1)) ∧ (IntKind.i64.wrap ((IntKind.i64.wrap (1 + v3.2.1)) + v3.1) : Int) ≤ (IntKind.i64.wrap ((IntKind.i64.wrap ((IntKind.i64.wrap (1 + v3.2.1)) + v3.1)) + 4)) ∧ (IntKind.i64.wrap ((IntKind.i64.wrap ((IntKind.i64.wrap (1 + v3.2.1)) + v3.1)) + 4) : Int) ≤ (a0.length : Int)) ∧ lp (fun (X7 : Int × Int → Prop) (s7 : Int × Int) => (((decide (s7.2 < (((List.drop (Int.toNat (IntKind.i64.wrap ((IntKind.i64.wrap (1 + v3.2.1)) + v3.1))) (List.take (Int.toNat (IntKind.i64.wrap ((IntKind.i64.wrap ((IntKind.i64.wrap (1 + v3.2.1)) + v3.1)) + 4))) a0)).length : Int)))) = true → ∃ (v10 : Int), ix (List.drop (Int.toNat (IntKind.i64.wrap ((IntKind.i64.wrap (1 + v3.2.1)) + v3.1))) (List.take (Int.toNat (IntKind.i64.wrap ((IntKind.i64.wrap ((IntKind.i64.wrap (1 + v3.2.1)) + v3.1)) + 4))) a0)) s7.2 v10 ∧ X7 ((Nn .u32 (Va .u32 s7.1 8) (IntKind.u32.wrap v10)), (IntKind.i64.wrap (s7.2 + 1)))) ∧ ((decide (s7.2 < (((List.drop (Int.toNat (IntKind.i64.wrap ((IntKind.i64.wrap (1 + v3.2.1)) + v3.1))) (List.take (Int.toNat (IntKind.i64.wrap ((IntKind.i64.wrap ((IntKind.i64.wrap (1 + v3.2.1)) + v3.1)) + 4))) a0)).length : Int)))) = false → J5 s7.1))) (0, 0))))))))))
def XA (a0 : (List Int)) (r : Int × (List Int) × Int × Int) : Prop := U2 a0 fun x => r = x
theorem FZ (a0 : (List Int)) (r : Int × (List Int) × Int × Int) (h : XA a0 r) : Qq Tryz.prog 45 [.c (.l 1 (List.map (eI .u8) a0))] [.c (.p (.v (.int .u8 r.1))), .c (.own 1 (List.map (eI .u8) r.2.1)), .c (.p (.v (.int .i64 r.2.2.1))), .c (.p (.v (.int .i64 r.2.2.2)))] [] := by
  refine Qo tb Tryz.func45 Z (by kernel_rfl) Z Z (Nat.le_of_ble_eq_true Z) Z ?_;intro E;unfold XA U2 at h;refine Zi (fun Q hQ => ?_);refine tk fun L hL => ?_;refine Qk Z Z ?_;refine Qk Z Z ?_;refine Qk Z Z ?_;refine Qk Z Z ?_;refine rt (hL _ ?_);refine sk fun L1 hL1 => ?_;refine tk fun L hL => ?_;refine mv Z ?_;refine u0 (Qs Z Z Z Z) ?_;refine u0 (Q5 (c := (((a0.length : Int)) == 0)) Z Z Z Z Z) ?_;refine rt (hL _ ?_);refine Z4 Z h (fun h => ?_) fun h => ?_
  · refine tk fun L hL => ?_;refine Qk Z Z ?_;refine Qk Z Z ?_;refine Qk Z Z ?_;refine Qk Z Z ?_;refine rt (hL _ ?_);obtain rfl := h;exact Q9 (hQ _ _ ⟨.inr Z, _, _, _, (.cons (.p Z) (.cons (.p Z) (.cons (.p Z) (.cons (.p Z) .nil)))), (.cons (.c (.p _)) (.cons (.c (.nilo _ (Nat.le_of_ble_eq_true Z))) (.cons (.c (.p _)) (.cons (.c (.p _)) .nil)))), Z, Z⟩)
  · refine Qc (hL1 _ ?_);refine tk fun L hL => ?_;refine mv Z ?_;obtain ⟨hm2, h⟩ := h;refine u0 (XY hm2 Z Z Z Z Z Z Z Z) ?_;obtain ⟨v3, hv3, h⟩ := h;refine u0 (Q7 (YR _ _ hv3) Z Z (.cons (.c (.p _)) .nil) Z Z Z) ?_;refine u0 (QV Z Z) ?_;refine u0 (Qa Z Z Z) ?_;refine u0 (Qa Z Z Z) ?_;refine u0 (Qa Z Z Z) ?_;refine Qk Z Z ?_;refine Qk Z Z ?_;refine Qk Z Z ?_;refine rt (hL _ ?_);refine sk fun L4 hL4 => ?_;refine Qp ?_;refine tk fun L hL => ?_;refine mv Z ?_;refine u0 (Q5 (c := (v3.2.2 != 0)) Z Z Z Z Z) ?_;refine Qk Z Z ?_;refine rt (hL _ ?_);refine Z4 Z h (fun h => ?_) fun h => ?_
    · refine tk fun L hL => ?_;refine mv Z ?_;refine Qk Z Z ?_;refine Qk Z Z ?_;refine Qk Z Z ?_;refine Qk Z Z ?_;refine rt (hL _ ?_);obtain rfl := h;exact Q9 (hQ _ _ ⟨.inr Z, _, _, _, (.cons (.p Z) (.cons (.p Z) (.cons (.p Z) (.cons (.p Z) .nil)))), (.cons (.c (.p _)) (.cons (.c (.nilo _ (Nat.le_of_ble_eq_true Z))) (.cons (.c (.p _)) (.cons (.c (.p _)) .nil)))), Z, Z⟩)
    · refine tk fun L hL => ?_;refine mv Z ?_;refine u0 (Q5 (c := decide (v3.1 > 1048576)) Z Z Z Z Z) ?_;refine Qk Z Z ?_;refine rt (hL _ ?_);refine Z4 Z h (fun h => ?_) fun h => ?_
      · refine tk fun L hL => ?_;refine Qk Z Z ?_;refine Qk Z Z ?_;refine Qk Z Z ?_;refine Qk Z Z ?_;refine rt (hL _ ?_);obtain rfl := h;exact Q9 (hQ _ _ ⟨.inr Z, _, _, _, (.cons (.p Z) (.cons (.p Z) (.cons (.p Z) (.cons (.p Z) .nil)))), (.cons (.c (.p _)) (.cons (.c (.nilo _ (Nat.le_of_ble_eq_true Z))) (.cons (.c (.p _)) (.cons (.c (.p _)) .nil)))), Z, Z⟩)
      · refine tk fun L hL => ?_;refine mv Z ?_;refine u0 (Qs Z Z Z Z) ?_;refine mv Z ?_;refine u0 (QJ Z Z Z Z Z) ?_;refine mv Z ?_;refine u0 (QJ Z Z Z Z Z) ?_;refine u0 (QJ Z Z Z Z Z) ?_;refine u0 (Q5 (c := decide (((a0.length : Int)) < (IntKind.i64.wrap ((IntKind.i64.wrap ((IntKind.i64.wrap (1 + v3.2.1)) + v3.1)) + 4)))) Z Z Z Z Z) ?_;refine Qk Z Z ?_;refine rt (hL _ ?_);refine Z4 Z h (fun h => ?_) fun h => ?_
        · refine tk fun L hL => ?_;refine Qk Z Z ?_;refine Qk Z Z ?_;refine Qk Z Z ?_;refine Qk Z Z ?_;refine rt (hL _ ?_);obtain rfl := h;exact Q9 (hQ _ _ ⟨.inr Z, _, _, _, (.cons (.p Z) (.cons (.p Z) (.cons (.p Z) (.cons (.p Z) .nil)))), (.cons (.c (.p _)) (.cons (.c (.nilo _ (Nat.le_of_ble_eq_true Z))) (.cons (.c (.p _)) (.cons (.c (.p _)) .nil)))), Z, Z⟩)
        · refine Qc (hL4 _ ?_);refine tk fun L hL => ?_;refine mv Z ?_;refine u0 (QJ Z Z Z Z Z) ?_;refine mv Z ?_;refine u0 (QJ Z Z Z Z Z) ?_;refine Qk Z Z ?_;refine rt (hL _ ?_);refine tk fun L hL => ?_;refine Qk Z Z ?_;refine rt (hL _ ?_);refine Zj (fun (p5 : Int) => (⟨[(0, .c (.p (.l 1 (List.map (eI .u8) a0)))), (7, .c (.p (.v (.int .i64 v3.2.1)))), (8, .c (.p (.v (.int .i64 (IntKind.i64.wrap ((IntKind.i64.wrap (1 + v3.2.1)) + v3.1)))))), (9, .c (.p (.v (.int .u32 p5))))], []⟩ : St)) h (fun p5 h => ?_) (fun J5 L5 hL5 h => ?_)
          · refine sk fun L11 hL11 => ?_;refine tk fun L hL => ?_;refine mv Z ?_;refine mv Z ?_;refine mv Z ?_;obtain ⟨hm12, h⟩ := h;refine u0 (Wb hm12 Z Z Z Z Z Z Z Z) ?_;obtain ⟨v13, hv13, h⟩ := h;refine u0 (Q7 (Am _ _ hv13) Z Z (.cons (.c (.p _)) .nil) Z Z Z) ?_;refine u0 (Q5 (c := (p5 != v13)) Z Z Z Z Z) ?_;refine rt (hL _ ?_);refine Z4 Z h (fun h => ?_) fun h => ?_
            · refine tk fun L hL => ?_;refine Qk Z Z ?_;refine Qk Z Z ?_;refine Qk Z Z ?_;refine Qk Z Z ?_;refine rt (hL _ ?_);obtain rfl := h;exact Q9 (hQ _ _ ⟨.inr Z, _, _, _, (.cons (.p Z) (.cons (.p Z) (.cons (.p Z) (.cons (.p Z) .nil)))), (.cons (.c (.p _)) (.cons (.c (.nilo _ (Nat.le_of_ble_eq_true Z))) (.cons (.c (.p _)) (.cons (.c (.p _)) .nil)))), Z, Z⟩)
            · refine Qc (hL11 _ ?_);refine dk mixed (fun L hL => ?_);refine mv Z ?_;obtain ⟨v14, hv14, h⟩ := h;refine u0 (QD hv14 Z Z Z Z Z Z Z Z) ?_;refine u0 (Qv Z Z Z Z Z) ?_;refine ul (IP (f := (eI .u8)) Z Z Z Z Z) ?_;refine mv Z ?_;refine mv Z ?_;refine u0 (QJ Z Z Z Z Z) ?_;refine mv Z ?_;obtain ⟨hm15, h⟩ := h;refine u0 (Y9 hm15 Z Z Z Z Z Z Z Z Z Z) ?_;obtain ⟨hm16, h⟩ := h;refine ul (QC (f := (eI .u8)) (L := ([] : List Int)) (L' := List.drop (Int.toNat (IntKind.i64.wrap (1 + v3.2.1))) (List.take (Int.toNat (IntKind.i64.wrap ((IntKind.i64.wrap (1 + v3.2.1)) + v3.1))) a0)) hm16 Z Z Z Z Z Z Z Z Z Z Z (JN QY Z Z Z Z Z)) ?_;refine mv Z ?_;refine u0 (QJ Z Z Z Z Z) ?_;refine Qk Z Z ?_;refine Qk Z Z ?_;refine Qk Z Z ?_;refine Qk Z Z ?_;refine rd (hL _ ?_);obtain rfl := h;exact Q9 (hQ _ _ ⟨.inr Z, _, _, _, (.cons (.p Z) (.cons (.s Z) (.cons (.p Z) (.cons (.p Z) .nil)))), (.cons (.c (.p _)) (.cons (.c (.own Z Z)) (.cons (.c (.p _)) (.cons (.c (.p _)) .nil)))), Z, Z⟩)
          · refine tk fun L hL => ?_;refine mv Z ?_;refine mv Z ?_;refine mv Z ?_;refine u0 (QJ Z Z Z Z Z) ?_;obtain ⟨hm6, h⟩ := h;refine u0 (Y9 hm6 Z Z Z Z Z Z Z Z Z Z) ?_;refine u0 (Qs Z Z Z Z) ?_;refine u0 (Qe Z Z) ?_;refine rt (hL _ ?_);refine Qp ?_;refine ZA (fun (s7 : Int × Int) => (⟨[(0, .c (.p (.l 1 (List.map (eI .u8) a0)))), (7, .c (.p (.v (.int .i64 v3.2.1)))), (8, .c (.p (.v (.int .i64 (IntKind.i64.wrap ((IntKind.i64.wrap (1 + v3.2.1)) + v3.1)))))), (9, .c (.p (.v (.int .u32 s7.1)))), (46, .c (.p (.l 1 (List.map (eI .u8) (List.drop (Int.toNat (IntKind.i64.wrap ((IntKind.i64.wrap (1 + v3.2.1)) + v3.1))) (List.take (Int.toNat (IntKind.i64.wrap ((IntKind.i64.wrap ((IntKind.i64.wrap (1 + v3.2.1)) + v3.1)) + 4))) a0)))))), (47, .c (.p (.v (.int .i64 (((List.drop (Int.toNat (IntKind.i64.wrap ((IntKind.i64.wrap (1 + v3.2.1)) + v3.1))) (List.take (Int.toNat (IntKind.i64.wrap ((IntKind.i64.wrap ((IntKind.i64.wrap (1 + v3.2.1)) + v3.1)) + 4))) a0)).length : Int)))))), (48, .c (.p (.v (.int .i64 s7.2))))], []⟩ : St)) h (QO.nm [0, 7, 8, 9, 46, 47, 48] [] Z (by kernel_rfl)) (fun X7 L7 hL7 s7 h => ?_);refine tk fun L hL => ?_;refine u0 (Q5 (c := decide (s7.2 < (((List.drop (Int.toNat (IntKind.i64.wrap ((IntKind.i64.wrap (1 + v3.2.1)) + v3.1))) (List.take (Int.toNat (IntKind.i64.wrap ((IntKind.i64.wrap ((IntKind.i64.wrap (1 + v3.2.1)) + v3.1)) + 4))) a0)).length : Int)))) Z Z Z Z Z) ?_
            refine rt (hL _ ?_);refine sk fun L8 hL8 => ?_;refine Z4 Z h (fun h => ?_) fun h => ?_
            · refine Qc (hL8 _ ?_);refine sk fun L9 hL9 => ?_;refine Qp ?_;refine tk fun L hL => ?_;obtain ⟨v10, hv10, h⟩ := h;refine u0 (QD hv10 Z Z Z Z Z Z Z Z) ?_;refine u0 (Qv Z Z Z Z Z) ?_;refine Qk Z Z ?_;refine rt (hL _ ?_);refine tl fun L hL => ?_;refine mv Z ?_;refine u0 (D6 (by decide) Z Z Z Z) ?_;refine mv Z ?_;refine u0 (Z9 (T := tb) Z Z Z Z Z Z) ?_;refine u0 (Z1 (z := .int .u32 (Nn .u32 (Va .u32 s7.1 8) (IntKind.u32.wrap v10))) Z Z Z Z Z) ?_;refine Qk Z Z ?_;refine rt (hL _ (hL9 _ ?_));refine tl fun L hL => ?_;refine u0 (QJ Z Z Z Z Z) ?_;refine mv Z ?_;refine rt (hL _ (hL7 _ _ h (QO.nm [0, 7, 8, 9, 46, 47, 48] [] Z (by kernel_rfl))))
            · refine Z6 (hL5 _ _ h (QO.nm [0, 7, 8, 9] [] Z (by kernel_rfl)))
def Vr (a0 : Qf) (a1 : Int) (a2 : Int) (Q : (Bool × Qf) → Prop) : Prop :=
 ((((bif a0.fbad then true else (a2 != 0))) = true → Q (false, (Qf.mk a0.fb true))) ∧ (((bif a0.fbad then true else (a2 != 0))) = false → ((0 : Int) ≤ a1 ∧ (a1 : Int) ≤ (a0.fb.length : Int)) ∧ Q (true, (Qf.mk (List.drop (Int.toNat a1) a0.fb) a0.fbad))))
def ZI (a0 : Qf) (a1 : Int) (a2 : Int) (r : Bool × Qf) : Prop := Vr a0 a1 a2 fun x => r = x
theorem Vs (a0 : Qf) (a1 : Int) (a2 : Int) (r : Bool × Qf) (h : ZI a0 a1 a2 r) : Qq Tryz.prog 71 [.ref [.p (.l 1 (List.map (eI .u8) a0.fb)), .p (.v (.bool a0.fbad))], .c (.v (.int .i64 a1)), .c (.v (.int .i64 a2))] [.c (.p (.v (.bool r.1)))] [.p (.l 1 (List.map (eI .u8) r.2.fb)), .p (.v (.bool r.2.fbad))] := by
  refine WH tb Tryz.func71 Z (by kernel_rfl) Z Z (Nat.le_of_ble_eq_true Z) Z ?_;intro E;unfold ZI Vr at h;refine Zi (fun Q hQ => ?_);refine tk fun L hL => ?_;refine Qk Z Z ?_;refine rt (hL _ ?_);refine Od (l := 0) Z (fun G hG => ?_);refine sk fun L1 hL1 => ?_;refine tk fun L hL => ?_;refine mv Z ?_;refine u0 (Zx Z Z Z) ?_;refine u0 (Q1 Z Z Z Z Z Z Z Z Z) ?_;refine u0 (Q2 Z Z Z Z Z Z) ?_;refine mv Z ?_;refine Q4 Z Z Qh (fun hg => Qe Z Z) ?_;refine Q4 Z Z Qh (fun hg => Q5 (c := (a2 != 0)) (Qj hg) Z Z Z Z) ?_;refine u0 (Qt (v := .bool true) (w := .bool ((a2 != 0))) Z Z Qh Z QF Z Z Z) ?_;refine rt (hL _ ?_);refine Z4 Z h (fun h => ?_) fun h => ?_
  · refine Pf ⟨Z, hG _ ?_⟩;refine Zc (st' := ⟨[(0, .c (.ptr ZX 0 0))], [(ZX, some (.box (List.map CV.p (Yb a0))))]⟩) (QO.nm [0] [(ZX, ZX)] Z Z) ?_;refine sk fun L2 hL2 => ?_;refine Qc (hL2 _ ?_);refine tk fun L hL => ?_;refine mv Z ?_;refine u0 (Zx Z Z Z) ?_;refine u0 (Q1 Z Z Z Z Z Z Z Z Z) ?_;refine un (QA Z Z Z Z Z Z Z Z Z Z) ?_;refine rt (hL _ ?_);refine tk fun L hL => ?_;refine Qk Z Z ?_;refine rt (hL _ ?_);obtain rfl := h;exact Q9 (hQ _ _ ⟨.inr Z, _, _, _, _, _, _, (.cons (.p Z) .nil), (.cons (.c (.p _)) .nil), Z, (.cons (.p _) (.cons (.p _) .nil)), Z, Z⟩)
  · refine Qc (hL1 _ ?_);refine Zc (st' := ⟨[(0, .c (.ptr ZX 0 0)), (1, .c (.p (.v (.int .i64 a1))))], [(ZX, some (.box (List.map CV.p (Yb a0))))]⟩) (QO.nm [0, 1] [(ZX, ZX)] Z Z) ?_;refine tk fun L hL => ?_;refine mv Z ?_;refine mv Z ?_;refine u0 (Zx Z Z Z) ?_;refine u0 (Q1 Z Z Z Z Z Z Z Z Z) ?_;refine u0 (Q2 Z Z Z Z Z Z) ?_;refine mv Z ?_;obtain ⟨hm3, h⟩ := h;refine u0 (XY hm3 Z Z Z Z Z Z Z Z) ?_;refine u0 (Zx Z Z Z) ?_;refine u0 (Q1 Z Z Z Z Z Z Z Z Z) ?_;refine un (QA Z Z Z Z Z Z Z Z Z Z) ?_;refine rt (hL _ ?_);refine sk fun L4 hL4 => ?_;refine tk fun L hL => ?_;refine Qk Z Z ?_;refine rt (hL _ ?_);obtain rfl := h;exact Q9 (hQ _ _ ⟨.inr Z, _, _, _, _, _, _, (.cons (.p Z) .nil), (.cons (.c (.p _)) .nil), Z, (.cons (.p _) (.cons (.p _) .nil)), Z, Z⟩)
def JK (a0 : Qf) (Q : (Int × Qf) → Prop) : Prop :=
 ∃ (v1 : Int × Int × Int), KA a0.fb v1 ∧ ∃ (v3 : Bool × Qf), ZI a0 v1.2.1 v1.2.2 v3 ∧ (((!(v3.1)) = true → Q (0, v3.2)) ∧ ((!(v3.1)) = false → Q (v1.1, v3.2)))
def QG (a0 : Qf) (r : Int × Qf) : Prop := JK a0 fun x => r = x
theorem QU (a0 : Qf) (r : Int × Qf) (h : QG a0 r) : Qq Tryz.prog 46 [.ref [.p (.l 1 (List.map (eI .u8) a0.fb)), .p (.v (.bool a0.fbad))]] [.c (.p (.v (.int .i64 r.1)))] [.p (.l 1 (List.map (eI .u8) r.2.fb)), .p (.v (.bool r.2.fbad))] := by
  refine WH tb Tryz.func46 Z (by kernel_rfl) Z Z (Nat.le_of_ble_eq_true Z) Z ?_;intro E;unfold QG JK at h;refine Zi (fun Q hQ => ?_);refine tk fun L hL => ?_;refine Qk Z Z ?_;refine rt (hL _ ?_);refine tk fun L hL => ?_;refine mv Z ?_;refine u0 (Zx Z Z Z) ?_;refine u0 (Q1 Z Z Z Z Z Z Z Z Z) ?_;refine u0 (Q2 Z Z Z Z Z Z) ?_;obtain ⟨v1, hv1, h⟩ := h;refine u0 (Q7 (YR _ _ hv1) Z Z (.cons (.c (.p _)) .nil) Z Z Z) ?_;refine u0 (QV Z Z) ?_;refine u0 (Qa Z Z Z) ?_;refine u0 (Qa Z Z Z) ?_;refine u0 (Qa Z Z Z) ?_;refine Qk Z Z ?_;refine Qk Z Z ?_;refine Qk Z Z ?_;refine rt (hL _ ?_);refine sk fun L2 hL2 => ?_;refine tk fun L hL => ?_;refine mv Z ?_;refine mv Z ?_;refine mv Z ?_;obtain ⟨v3, hv3, h⟩ := h;refine ul (Za (Vs _ _ _ _ hv3) Z Z Z Z Z (.pp (.pp .nil)) (.cons (.c (.p _)) (.cons (.c (.p _)) .nil)) Z Z Z Z Z) ?_;refine u0 (QL Z Z Z) ?_;refine rt (hL _ ?_);refine Z4 Z h (fun h => ?_) fun h => ?_
  · refine tk fun L hL => ?_;refine Qk Z Z ?_;refine rt (hL _ ?_);obtain rfl := h;exact Q9 (hQ _ _ ⟨.inr Z, _, _, _, _, _, _, (.cons (.p Z) .nil), (.cons (.c (.p _)) .nil), Z, (.cons (.p _) (.cons (.p _) .nil)), Z, Z⟩)
  · refine Qc (hL2 _ ?_);refine tk fun L hL => ?_;refine mv Z ?_;refine Qk Z Z ?_;refine rt (hL _ ?_);obtain rfl := h;exact Q9 (hQ _ _ ⟨.inr Z, _, _, _, _, _, _, (.cons (.p Z) .nil), (.cons (.c (.p _)) .nil), Z, (.cons (.p _) (.cons (.p _) .nil)), Z, Z⟩)
def YS (a0 : (List Int)) (Q : (ByteArray × Int × Int) → Prop) : Prop :=
 ∃ (v1 : Int × Int × Int), KA a0 v1 ∧ ((((v1.2.2 != 0)) = true → Q (((⟨#[]⟩ : ByteArray)), 0, v1.2.2)) ∧ (((v1.2.2 != 0)) = false → (((decide (v1.1 > 65536)) = true → Q (((⟨#[]⟩ : ByteArray)), 0, 2)) ∧ ((decide (v1.1 > 65536)) = false → (((decide ((IntKind.i64.wrap (((a0.length : Int)) - v1.2.1)) < v1.1)) = true → Q (((⟨#[]⟩ : ByteArray)), 0, 3)) ∧ ((decide ((IntKind.i64.wrap (((a0.length : Int)) - v1.2.1)) < v1.1)) = false → ((0 : Int) ≤ v1.2.1 ∧ (v1.2.1 : Int) ≤ (IntKind.i64.wrap (v1.2.1 + v1.1)) ∧ (IntKind.i64.wrap (v1.2.1 + v1.1) : Int) ≤ (a0.length : Int)) ∧ Q ((strOfNums (List.drop (Int.toNat v1.2.1) (List.take (Int.toNat (IntKind.i64.wrap (v1.2.1 + v1.1))) a0))), (IntKind.i64.wrap (v1.2.1 + v1.1)), 0)))))))
def V2 (a0 : (List Int)) (r : ByteArray × Int × Int) : Prop := YS a0 fun x => r = x
theorem Dm (a0 : (List Int)) (r : ByteArray × Int × Int) (h : V2 a0 r) : Qq Tryz.prog 72 [.c (.l 1 (List.map (eI .u8) a0))] [.c (.p (.v (.string r.1))), .c (.p (.v (.int .i64 r.2.1))), .c (.p (.v (.int .i64 r.2.2)))] [] := by
  refine Qo tb Tryz.func72 Z (by kernel_rfl) Z Z (Nat.le_of_ble_eq_true Z) Z ?_;intro E;unfold V2 YS at h;refine Zi (fun Q hQ => ?_);refine tk fun L hL => ?_;refine Qk Z Z ?_;refine Qk Z Z ?_;refine Qk Z Z ?_;refine rt (hL _ ?_);refine tk fun L hL => ?_;refine mv Z ?_;obtain ⟨v1, hv1, h⟩ := h;refine u0 (Q7 (YR _ _ hv1) Z Z (.cons (.c (.p _)) .nil) Z Z Z) ?_;refine u0 (QV Z Z) ?_;refine u0 (Qa Z Z Z) ?_;refine u0 (Qa Z Z Z) ?_;refine u0 (Qa Z Z Z) ?_;refine Qk Z Z ?_;refine Qk Z Z ?_;refine Qk Z Z ?_;refine rt (hL _ ?_);refine sk fun L2 hL2 => ?_;refine Qp ?_;refine tk fun L hL => ?_;refine mv Z ?_;refine u0 (Q5 (c := (v1.2.2 != 0)) Z Z Z Z Z) ?_;refine Qk Z Z ?_;refine rt (hL _ ?_);refine Z4 Z h (fun h => ?_) fun h => ?_
  · refine tk fun L hL => ?_;refine mv Z ?_;refine Qk Z Z ?_;refine Qk Z Z ?_;refine Qk Z Z ?_;refine rt (hL _ ?_);obtain rfl := h;exact Q9 (hQ _ _ (LZ Z Z Z Z))
  · refine tk fun L hL => ?_;refine mv Z ?_;refine u0 (Q5 (c := decide (v1.1 > 65536)) Z Z Z Z Z) ?_;refine Qk Z Z ?_;refine rt (hL _ ?_);refine Z4 Z h (fun h => ?_) fun h => ?_
    · refine tk fun L hL => ?_;refine Qk Z Z ?_;refine Qk Z Z ?_;refine Qk Z Z ?_;refine rt (hL _ ?_);obtain rfl := h;exact Q9 (hQ _ _ (LZ Z Z Z Z))
    · refine tk fun L hL => ?_;refine mv Z ?_;refine u0 (Qs Z Z Z Z) ?_;refine mv Z ?_;refine u0 (Zn Z Z Z Z Z) ?_;refine mv Z ?_;refine u0 (Q5 (c := decide ((IntKind.i64.wrap (((a0.length : Int)) - v1.2.1)) < v1.1)) Z Z Z Z Z) ?_;refine Qk Z Z ?_;refine rt (hL _ ?_);refine Z4 Z h (fun h => ?_) fun h => ?_
      · refine tk fun L hL => ?_;refine Qk Z Z ?_;refine Qk Z Z ?_;refine Qk Z Z ?_;refine rt (hL _ ?_);obtain rfl := h;exact Q9 (hQ _ _ (LZ Z Z Z Z))
      · refine Qc (hL2 _ ?_);refine tk fun L hL => ?_;refine mv Z ?_;refine mv Z ?_;refine mv Z ?_;refine mv Z ?_;refine u0 (QJ Z Z Z Z Z) ?_;obtain ⟨hm3, h⟩ := h;refine u0 (Y9 hm3 Z Z Z Z Z Z Z Z Z Z) ?_;refine u0 (Wc Z Z Z Z Z Z Z Z) ?_;refine mv Z ?_;refine mv Z ?_;refine u0 (QJ Z Z Z Z Z) ?_;refine Qk Z Z ?_;refine Qk Z Z ?_;refine Qk Z Z ?_;refine rt (hL _ ?_);obtain rfl := h;exact Q9 (hQ _ _ (LZ Z Z Z Z))
def Vt (a0 : Qf) (Q : (ByteArray × Qf) → Prop) : Prop :=
 ∃ (v1 : ByteArray × Int × Int), V2 a0.fb v1 ∧ ∃ (v3 : Bool × Qf), ZI a0 v1.2.1 v1.2.2 v3 ∧ (((!(v3.1)) = true → Q (((⟨#[]⟩ : ByteArray)), v3.2)) ∧ ((!(v3.1)) = false → Q (v1.1, v3.2)))
def Zb (a0 : Qf) (r : ByteArray × Qf) : Prop := Vt a0 fun x => r = x
theorem ZJ (a0 : Qf) (r : ByteArray × Qf) (h : Zb a0 r) : Qq Tryz.prog 47 [.ref [.p (.l 1 (List.map (eI .u8) a0.fb)), .p (.v (.bool a0.fbad))]] [.c (.p (.v (.string r.1)))] [.p (.l 1 (List.map (eI .u8) r.2.fb)), .p (.v (.bool r.2.fbad))] := by
  refine WH tb Tryz.func47 Z (by kernel_rfl) Z Z (Nat.le_of_ble_eq_true Z) Z ?_;intro E;unfold Zb Vt at h;refine Zi (fun Q hQ => ?_);refine tk fun L hL => ?_;refine Qk Z Z ?_;refine rt (hL _ ?_);refine tk fun L hL => ?_;refine mv Z ?_;refine u0 (Zx Z Z Z) ?_;refine u0 (Q1 Z Z Z Z Z Z Z Z Z) ?_;refine u0 (Q2 Z Z Z Z Z Z) ?_;obtain ⟨v1, hv1, h⟩ := h;refine u0 (Q7 (Dm _ _ hv1) Z Z (.cons (.c (.p _)) .nil) Z Z Z) ?_;refine u0 (QV Z Z) ?_;refine u0 (Qa Z Z Z) ?_;refine u0 (Qa Z Z Z) ?_;refine u0 (Qa Z Z Z) ?_;refine Qk Z Z ?_;refine Qk Z Z ?_;refine Qk Z Z ?_;refine rt (hL _ ?_);refine sk fun L2 hL2 => ?_;refine tk fun L hL => ?_;refine mv Z ?_;refine mv Z ?_;refine mv Z ?_;obtain ⟨v3, hv3, h⟩ := h;refine ul (Za (Vs _ _ _ _ hv3) Z Z Z Z Z (.pp (.pp .nil)) (.cons (.c (.p _)) (.cons (.c (.p _)) .nil)) Z Z Z Z Z) ?_;refine u0 (QL Z Z Z) ?_;refine rt (hL _ ?_);refine Z4 Z h (fun h => ?_) fun h => ?_
  · refine tk fun L hL => ?_;refine Qk Z Z ?_;refine rt (hL _ ?_);obtain rfl := h;exact Q9 (hQ _ _ ⟨.inr Z, _, _, _, _, _, _, (.cons (.p Z) .nil), (.cons (.c (.p _)) .nil), Z, (.cons (.p _) (.cons (.p _) .nil)), Z, Z⟩)
  · refine Qc (hL2 _ ?_);refine tk fun L hL => ?_;refine mv Z ?_;refine Qk Z Z ?_;refine rt (hL _ ?_);obtain rfl := h;exact Q9 (hQ _ _ ⟨.inr Z, _, _, _, _, _, _, (.cons (.p Z) .nil), (.cons (.c (.p _)) .nil), Z, (.cons (.p _) (.cons (.p _) .nil)), Z, Z⟩)
def YT (a0 : (List Int)) (Q : (Int × Int × Int) → Prop) : Prop :=
 (((decide (((a0.length : Int)) < 8)) = true → Q (0, 0, 3)) ∧ ((decide (((a0.length : Int)) < 8)) = false → jn (fun (p2 : Int) => Q (p2, 8, 0)) (fun (J2 : Int → Prop) => ((0 : Int) ≤ 8 ∧ (8 : Int) ≤ (a0.length : Int)) ∧ lp (fun (X4 : Int × Int → Prop) (s4 : Int × Int) => (((decide (s4.2 < (((List.take (Int.toNat 8) a0).length : Int)))) = true → ∃ (v7 : Int), ix (List.take (Int.toNat 8) a0) s4.2 v7 ∧ X4 ((Nn .u64 (Va .u64 s4.1 8) (IntKind.u64.wrap v7)), (IntKind.i64.wrap (s4.2 + 1)))) ∧ ((decide (s4.2 < (((List.take (Int.toNat 8) a0).length : Int)))) = false → J2 s4.1))) (0, 0))))
def V3 (a0 : (List Int)) (r : Int × Int × Int) : Prop := YT a0 fun x => r = x
theorem Dn (a0 : (List Int)) (r : Int × Int × Int) (h : V3 a0 r) : Qq Tryz.prog 73 [.c (.l 1 (List.map (eI .u8) a0))] [.c (.p (.v (.int .u64 r.1))), .c (.p (.v (.int .i64 r.2.1))), .c (.p (.v (.int .i64 r.2.2)))] [] := by
  refine Qo tb Tryz.func73 Z (by kernel_rfl) Z Z (Nat.le_of_ble_eq_true Z) Z ?_;intro E;unfold V3 YT at h;refine Zi (fun Q hQ => ?_);refine tk fun L hL => ?_;refine Qk Z Z ?_;refine Qk Z Z ?_;refine Qk Z Z ?_;refine rt (hL _ ?_);refine sk fun L1 hL1 => ?_;refine tk fun L hL => ?_;refine mv Z ?_;refine u0 (Qs Z Z Z Z) ?_;refine u0 (Q5 (c := decide (((a0.length : Int)) < 8)) Z Z Z Z Z) ?_;refine rt (hL _ ?_);refine Z4 Z h (fun h => ?_) fun h => ?_
  · refine tk fun L hL => ?_;refine Qk Z Z ?_;refine Qk Z Z ?_;refine Qk Z Z ?_;refine rt (hL _ ?_);obtain rfl := h;exact Q9 (hQ _ _ (LZ Z Z Z Z))
  · refine Qc (hL1 _ ?_);refine Zj (fun (p2 : Int) => (⟨[(2, .c (.p (.v (.int .u64 p2))))], []⟩ : St)) h (fun p2 h => ?_) (fun J2 L2 hL2 h => ?_)
    · refine tk fun L hL => ?_;refine mv Z ?_;refine Qk Z Z ?_;refine Qk Z Z ?_;refine Qk Z Z ?_;refine rt (hL _ ?_);obtain rfl := h;exact Q9 (hQ _ _ (LZ Z Z Z Z))
    · refine tk fun L hL => ?_;refine mv Z ?_;obtain ⟨hm3, h⟩ := h;refine u0 (Wb hm3 Z Z Z Z Z Z Z Z) ?_;refine u0 (Qs Z Z Z Z) ?_;refine u0 (Qe Z Z) ?_;refine rt (hL _ ?_);refine Qp ?_;refine ZA (fun (s4 : Int × Int) => (⟨[(2, .c (.p (.v (.int .u64 s4.1)))), (11, .c (.p (.l 1 (List.map (eI .u8) (List.take (Int.toNat 8) a0))))), (12, .c (.p (.v (.int .i64 (((List.take (Int.toNat 8) a0).length : Int)))))), (13, .c (.p (.v (.int .i64 s4.2))))], []⟩ : St)) h (QO.nm [2, 11, 12, 13] [] Z (by kernel_rfl)) (fun X4 L4 hL4 s4 h => ?_);refine tk fun L hL => ?_;refine u0 (Q5 (c := decide (s4.2 < (((List.take (Int.toNat 8) a0).length : Int)))) Z Z Z Z Z) ?_;refine rt (hL _ ?_);refine sk fun L5 hL5 => ?_;refine Z4 Z h (fun h => ?_) fun h => ?_
      · refine Qc (hL5 _ ?_);refine sk fun L6 hL6 => ?_;refine Qp ?_;refine tk fun L hL => ?_;obtain ⟨v7, hv7, h⟩ := h;refine u0 (QD hv7 Z Z Z Z Z Z Z Z) ?_;refine u0 (Qv Z Z Z Z Z) ?_;refine Qk Z Z ?_;refine rt (hL _ ?_);refine tl fun L hL => ?_;refine mv Z ?_;refine u0 (D6 (by decide) Z Z Z Z) ?_;refine mv Z ?_;refine u0 (Z9 (T := tb) Z Z Z Z Z Z) ?_;refine u0 (Z1 (z := .int .u64 (Nn .u64 (Va .u64 s4.1 8) (IntKind.u64.wrap v7))) Z Z Z Z Z) ?_;refine Qk Z Z ?_;refine rt (hL _ (hL6 _ ?_));refine tl fun L hL => ?_;refine u0 (QJ Z Z Z Z Z) ?_;refine mv Z ?_;refine rt (hL _ (hL4 _ _ h (QO.nm [2, 11, 12, 13] [] Z (by kernel_rfl))))
      · refine Z6 (hL2 _ _ h (QO.nm [2] [] Z (by kernel_rfl)))
def Vu (a0 : Qf) (Q : (Int × Qf) → Prop) : Prop :=
 ∃ (v1 : Int × Int × Int), V3 a0.fb v1 ∧ ∃ (v3 : Bool × Qf), ZI a0 v1.2.1 v1.2.2 v3 ∧ (((!(v3.1)) = true → Q (0, v3.2)) ∧ ((!(v3.1)) = false → Q (v1.1, v3.2)))
def ZK (a0 : Qf) (r : Int × Qf) : Prop := Vu a0 fun x => r = x
theorem UL (a0 : Qf) (r : Int × Qf) (h : ZK a0 r) : Qq Tryz.prog 48 [.ref [.p (.l 1 (List.map (eI .u8) a0.fb)), .p (.v (.bool a0.fbad))]] [.c (.p (.v (.int .u64 r.1)))] [.p (.l 1 (List.map (eI .u8) r.2.fb)), .p (.v (.bool r.2.fbad))] := by
  refine WH tb Tryz.func48 Z (by kernel_rfl) Z Z (Nat.le_of_ble_eq_true Z) Z ?_;intro E;unfold ZK Vu at h;refine Zi (fun Q hQ => ?_);refine tk fun L hL => ?_;refine Qk Z Z ?_;refine rt (hL _ ?_);refine tk fun L hL => ?_;refine mv Z ?_;refine u0 (Zx Z Z Z) ?_;refine u0 (Q1 Z Z Z Z Z Z Z Z Z) ?_;refine u0 (Q2 Z Z Z Z Z Z) ?_;obtain ⟨v1, hv1, h⟩ := h;refine u0 (Q7 (Dn _ _ hv1) Z Z (.cons (.c (.p _)) .nil) Z Z Z) ?_;refine u0 (QV Z Z) ?_;refine u0 (Qa Z Z Z) ?_;refine u0 (Qa Z Z Z) ?_;refine u0 (Qa Z Z Z) ?_;refine Qk Z Z ?_;refine Qk Z Z ?_;refine Qk Z Z ?_;refine rt (hL _ ?_);refine sk fun L2 hL2 => ?_;refine tk fun L hL => ?_;refine mv Z ?_;refine mv Z ?_;refine mv Z ?_;obtain ⟨v3, hv3, h⟩ := h;refine ul (Za (Vs _ _ _ _ hv3) Z Z Z Z Z (.pp (.pp .nil)) (.cons (.c (.p _)) (.cons (.c (.p _)) .nil)) Z Z Z Z Z) ?_;refine u0 (QL Z Z Z) ?_;refine rt (hL _ ?_);refine Z4 Z h (fun h => ?_) fun h => ?_
  · refine tk fun L hL => ?_;refine Qk Z Z ?_;refine rt (hL _ ?_);obtain rfl := h;exact Q9 (hQ _ _ ⟨.inr Z, _, _, _, _, _, _, (.cons (.p Z) .nil), (.cons (.c (.p _)) .nil), Z, (.cons (.p _) (.cons (.p _) .nil)), Z, Z⟩)
  · refine Qc (hL2 _ ?_);refine tk fun L hL => ?_;refine mv Z ?_;refine Qk Z Z ?_;refine rt (hL _ ?_);obtain rfl := h;exact Q9 (hQ _ _ ⟨.inr Z, _, _, _, _, _, _, (.cons (.p Z) .nil), (.cons (.c (.p _)) .nil), Z, (.cons (.p _) (.cons (.p _) .nil)), Z, Z⟩)
def Yg (a0 : (List Int)) (Q : (Qu × Int) → Prop) : Prop :=
 ∃ (v1 : Int × (List Int) × Int × Int), XA a0 v1 ∧ ((((v1.2.2.2 != 0)) = true → Q ((Qu.mk 0 ByteArray.empty ByteArray.empty ([] : (List ByteArray)) (Qn.mk 0 0 0 0) ([] : (List Qb)) ([] : (List Int)) 0 0 0 0 0 0 (Qz.mk 0 ByteArray.empty 0 0 0) ([] : (List Int))), v1.2.2.2)) ∧ (((v1.2.2.2 != 0)) = false → ∃ (v3 : Int × Qf), QG (Qf.mk v1.2.1 false)  v3 ∧ ∃ (v4 : ByteArray × Qf), Zb v3.2  v4 ∧ ∃ (v5 : ByteArray × Qf), Zb v4.2  v5 ∧ jn (fun (p6 : (List Int) × Bool × (List ByteArray)) => ∃ (v13 : Int × Qf), QG (Qf.mk p6.1 p6.2.1)  v13 ∧ ∃ (v14 : Int × Qf), QG v13.2  v14 ∧ ∃ (v15 : Int × Qf), QG v14.2  v15 ∧ ∃ (v16 : Int × Qf), ZK v15.2  v16 ∧ jn (fun (p17 : (List Int) × Bool × (List ByteArray) × (List Qb)) => ∃ (v25 : ByteArray × Qf), Zb (Qf.mk p17.1 p17.2.1)  v25 ∧ (v25.1.size ≤ 140737488355328) ∧ ∃ (v27 : Int × Qf), QG v25.2  v27 ∧ ∃ (v28 : Int × Qf), QG v27.2  v28 ∧ ∃ (v29 : Int × Qf), QG v28.2  v29 ∧ ∃ (v30 : Int × Qf), QG v29.2  v30 ∧ ∃ (v31 : Int × Qf), QG v30.2  v31 ∧ ∃ (v32 : Int × Qf), QG v31.2  v32 ∧ ∃ (v33 : Int × Qf), QG v32.2  v33 ∧ ∃ (v34 : ByteArray × Qf), Zb v33.2  v34 ∧ ∃ (v35 : Int × Qf), QG v34.2  v35 ∧ ∃ (v36 : Int × Qf), QG v35.2  v36 ∧ ∃ (v37 : Int × Qf), QG v36.2  v37 ∧ ∃ (v38 : ByteArray × Qf), Zb v37.2  v38 ∧ (v38.1.size ≤ 140737488355328) ∧ ∃ (v40 : (List Int) × Int), KW (Qu.mk v3.1 v4.1 v5.1 p17.2.2.1 (Qn.mk v13.1 v14.1 v15.1 v16.1) p17.2.2.2 (sI v25.1) v27.1 v28.1 v29.1 v30.1 v31.1 v32.1 (Qz.mk v33.1 v34.1 v35.1 v36.1 v37.1) (sI v38.1)) v40 ∧ ((((bif (bif (bif (bif (v1.1 != 79) then true else (v1.2.2.1 != ((a0.length : Int)))) then true else v38.2.fbad) then true else (v40.2 != 0)) then true else (!((strOfNums v40.1).toList == (strOfNums a0).toList)))) = true → Q ((Qu.mk 0 ByteArray.empty ByteArray.empty ([] : (List ByteArray)) (Qn.mk 0 0 0 0) ([] : (List Qb)) ([] : (List Int)) 0 0 0 0 0 0 (Qz.mk 0 ByteArray.empty 0 0 0) ([] : (List Int))), 2)) ∧ (((bif (bif (bif (bif (v1.1 != 79) then true else (v1.2.2.1 != ((a0.length : Int)))) then true else v38.2.fbad) then true else (v40.2 != 0)) then true else (!((strOfNums v40.1).toList == (strOfNums a0).toList)))) = false → Q ((Qu.mk v3.1 v4.1 v5.1 p17.2.2.1 (Qn.mk v13.1 v14.1 v15.1 v16.1) p17.2.2.2 (sI v25.1) v27.1 v28.1 v29.1 v30.1 v31.1 v32.1 (Qz.mk v33.1 v34.1 v35.1 v36.1 v37.1) (sI v38.1)), 0)))) (fun (J17 : (List Int) × Bool × (List ByteArray) × (List Qb) → Prop) => ∃ (v18 : Int × Qf), QG v16.2  v18 ∧ lp (fun (X19 : Int × (List Int) × Bool × (List ByteArray) × (List Qb) → Prop) (s19 : Int × (List Int) × Bool × (List ByteArray) × (List Qb)) => ((((bif decide (s19.1 > 0) then !(s19.2.2.1) else false)) = true → ∃ (v22 : ByteArray × Qf), Zb (Qf.mk s19.2.1 s19.2.2.1)  v22 ∧ ∃ (v23 : Int × Qf), QG v22.2  v23 ∧ ((s19.2.2.2.2.length + ([(Qb.mk v22.1 v23.1)]).length) * 24 ≤ 140737488355328) ∧ X19 ((IntKind.i64.wrap (s19.1 - 1)), v23.2.fb, v23.2.fbad, s19.2.2.2.1, (s19.2.2.2.2 ++ ([(Qb.mk v22.1 v23.1)])))) ∧ (((bif decide (s19.1 > 0) then !(s19.2.2.1) else false)) = false → J17 (s19.2.1, s19.2.2.1, s19.2.2.2.1, s19.2.2.2.2)))) (v18.1, v18.2.fb, v18.2.fbad, p6.2.2, ([] : (List Qb))))) (fun (J6 : (List Int) × Bool × (List ByteArray) → Prop) => ∃ (v7 : Int × Qf), QG v5.2  v7 ∧ lp (fun (X8 : Int × (List Int) × Bool × (List ByteArray) → Prop) (s8 : Int × (List Int) × Bool × (List ByteArray)) => ((((bif decide (s8.1 > 0) then !(s8.2.2.1) else false)) = true → ∃ (v11 : ByteArray × Qf), Zb (Qf.mk s8.2.1 s8.2.2.1)  v11 ∧ ((s8.2.2.2.length + ([v11.1]).length) * 16 ≤ 140737488355328) ∧ X8 ((IntKind.i64.wrap (s8.1 - 1)), v11.2.fb, v11.2.fbad, (s8.2.2.2 ++ ([v11.1])))) ∧ (((bif decide (s8.1 > 0) then !(s8.2.2.1) else false)) = false → J6 (s8.2.1, s8.2.2.1, s8.2.2.2)))) (v7.1, v7.2.fb, v7.2.fbad, ([] : (List ByteArray))))))
def JH (a0 : (List Int)) (r : Qu × Int) : Prop := Yg a0 fun x => r = x
theorem Cv (a0 : (List Int)) (r : Qu × Int) (h : JH a0 r) : Qq Tryz.prog 13 [.c (.l 1 (List.map (eI .u8) a0))] [.agg [.p (.v (.int .i64 r.1.fKind)), .p (.v (.string r.1.fName)), .p (.v (.string r.1.fOther)), .own 1 (List.map eS r.1.fNames), .p (.v (.int .i64 r.1.fParams.fKind)), .p (.v (.int .i64 r.1.fParams.fSize)), .p (.v (.int .i64 r.1.fParams.fDepth)), .p (.v (.int .u64 r.1.fParams.fSeed)), .own 2 (List.map QR r.1.fItems), .p (.l 1 (List.map (eI .u8) r.1.fCoins)), .p (.v (.int .i64 r.1.fExpected)), .p (.v (.int .i64 r.1.fSource)), .p (.v (.int .i64 r.1.fHandle)), .p (.v (.int .i64 r.1.fIndex)), .p (.v (.int .i64 r.1.fCursor)), .p (.v (.int .i64 r.1.fCount)), .p (.v (.int .i64 r.1.fQuery.fKind)), .p (.v (.string r.1.fQuery.fKey)), .p (.v (.int .i64 r.1.fQuery.fCount)), .p (.v (.int .i64 r.1.fQuery.fNum)), .p (.v (.int .i64 r.1.fQuery.fDen)), .p (.l 1 (List.map (eI .u8) r.1.fData))], .c (.p (.v (.int .i64 r.2)))] [] := by
  refine Qo tb Tryz.func13 Z (by kernel_rfl) Z Z (Nat.le_of_ble_eq_true Z) Z ?_;intro E;unfold JH Yg at h;refine Zi (fun Q hQ => ?_);refine tk fun L hL => ?_;refine u1 (QQ Z Z Z) ?_;refine Qk Z Z ?_;refine rt (hL _ ?_);refine tk fun L hL => ?_;refine mv Z ?_;obtain ⟨v1, hv1, h⟩ := h;refine ul (QT (FZ _ _ hv1) Z Z (.cons (.c (.p _)) .nil) Z Z Z) ?_;refine u0 (QV Z Z) ?_;refine u0 (Qa Z Z Z) ?_;refine u0 (Qa Z Z Z) ?_;refine u0 (Qa Z Z Z) ?_;refine u0 (Qa Z Z Z) ?_;refine Qk Z Z ?_;refine Qk Z Z ?_;refine Qk Z Z ?_;refine Qk Z Z ?_;refine rt (hL _ ?_);refine sk fun L2 hL2 => ?_;refine tk fun L hL => ?_;refine mv Z ?_;refine u0 (Q5 (c := (v1.2.2.2 != 0)) Z Z Z Z Z) ?_;refine rt (hL _ ?_);refine Z4 Z h (fun h => ?_) fun h => ?_
  · refine tk fun L hL => ?_;refine u0 (Qi Z Z Z Z Z Z Z) ?_;refine mv Z ?_;refine un (Qg Z Z Z Z Z Z Z Z Z) ?_;refine Qk Z Z ?_;refine rt (hL _ ?_);obtain rfl := h;exact Q9 (hQ _ _ ⟨.inr Z, _, _, _, (.cons (.cella Z Z Z Z Z) (.cons (.p Z) .nil)), (.cons (.agg (Qr (Qr (Qr (WI Z (Qr (Qr (Qr (Qr (WI Z (Yw (Qr (Qr (Qr (Qr (Qr (Qr (Qr (Qr (Qr (Qr (Qr (Yw .nil))))))))))))))))))))))) (.cons (.c (.p _)) .nil)), Z, Z⟩)
  · refine Qc (hL2 _ ?_);refine tk fun L hL => ?_;refine mv Z ?_;refine u0 (Qi Z Z Z Z Z Z Z) ?_;refine u1 (QP Z Z) ?_;refine Qk Z Z ?_;refine rt (hL _ ?_);refine tk fun L hL => ?_;refine mv Z ?_;obtain ⟨v3, hv3, h⟩ := h;refine ul (Za (QU _  _ hv3) Z Z Z Z Z (.cons (.fr Z (Z2 Z)) (.pp .nil)) .nil Z Z Z Z Z) ?_;refine mv Z ?_;obtain ⟨v4, hv4, h⟩ := h;refine ul (Za (ZJ _  _ hv4) Z Z Z Z Z (.pp (.pp .nil)) .nil Z Z Z Z Z) ?_;refine mv Z ?_;obtain ⟨v5, hv5, h⟩ := h;refine ul (Za (ZJ _  _ hv5) Z Z Z Z Z (.pp (.pp .nil)) .nil Z Z Z Z Z) ?_;refine u0 (Qi Z Z Z Z Z Z Z) ?_;refine u1 (QQ Z Z Z) ?_;refine un (Qg Z Z Z Z Z Z Z Z Z) ?_;refine rt (hL _ ?_);refine Zj (fun (p6 : (List Int) × Bool × (List ByteArray)) => (⟨[(0, .c (.p (.l 1 (List.map (eI .u8) a0)))), (2, .c (.ptr (2, 0) 0 0)), (4, .c (.p (.v (.int .u8 v1.1)))), (6, .c (.p (.v (.int .i64 v1.2.2.1)))), (8, .c (.ptr (27, 0) 0 0)), (9, .c (.ptr (9, 0) 0 0))], [((2, 0), some (.box ([.p (.v (.int .i64 0)), .p (.v (.string ByteArray.empty)), .p (.v (.string ByteArray.empty)), .p (.v (.slice none 0 0)), .p (.v (.int .i64 0)), .p (.v (.int .i64 0)), .p (.v (.int .i64 0)), .p (.v (.int .u64 0)), .p (.v (.slice none 0 0)), .p (.v (.slice none 0 0)), .p (.v (.int .i64 0)), .p (.v (.int .i64 0)), .p (.v (.int .i64 0)), .p (.v (.int .i64 0)), .p (.v (.int .i64 0)), .p (.v (.int .i64 0)), .p (.v (.int .i64 0)), .p (.v (.string ByteArray.empty)), .p (.v (.int .i64 0)), .p (.v (.int .i64 0)), .p (.v (.int .i64 0)), .p (.v (.slice none 0 0))]))), ((27, 0), some (.box ([.p (.l 1 (List.map (eI .u8) p6.1)), .p (.v (.bool p6.2.1))]))), ((9, 2003), some (.row 1 (List.map eS p6.2.2) true)), ((9, 0), some (.box ([.p (.v (.int .i64 v3.1)), .p (.v (.string v4.1)), .p (.v (.string v5.1)), .sl (9, 2003) 0 (List.map eS p6.2.2).length, .p (.v (.int .i64 0)), .p (.v (.int .i64 0)), .p (.v (.int .i64 0)), .p (.v (.int .u64 0)), .p (.v (.slice none 0 0)), .p (.v (.slice none 0 0)), .p (.v (.int .i64 0)), .p (.v (.int .i64 0)), .p (.v (.int .i64 0)), .p (.v (.int .i64 0)), .p (.v (.int .i64 0)), .p (.v (.int .i64 0)), .p (.v (.int .i64 0)), .p (.v (.string ByteArray.empty)), .p (.v (.int .i64 0)), .p (.v (.int .i64 0)), .p (.v (.int .i64 0)), .p (.v (.slice none 0 0))])))]⟩ : St)) h (fun p6 h => ?_) (fun J6 L6 hL6 h => ?_)
    · refine tk fun L hL => ?_;refine mv Z ?_;obtain ⟨v13, hv13, h⟩ := h;refine ul (Za (QU _  _ hv13) Z Z Z Z Z (.pp (.pp .nil)) .nil Z Z Z Z Z) ?_;refine mv Z ?_;obtain ⟨v14, hv14, h⟩ := h;refine ul (Za (QU _  _ hv14) Z Z Z Z Z (.pp (.pp .nil)) .nil Z Z Z Z Z) ?_;refine mv Z ?_;obtain ⟨v15, hv15, h⟩ := h;refine ul (Za (QU _  _ hv15) Z Z Z Z Z (.pp (.pp .nil)) .nil Z Z Z Z Z) ?_;refine u0 (Qi Z Z Z Z Z Z Z) ?_;refine u0 (Q1 Z Z Z Z Z Z Z Z Z) ?_;refine un (Qg Z Z Z Z Z Z Z Z Z) ?_;refine rt (hL _ ?_);refine tk fun L hL => ?_;refine mv Z ?_;obtain ⟨v16, hv16, h⟩ := h;refine ul (Za (UL _  _ hv16) Z Z Z Z Z (.pp (.pp .nil)) .nil Z Z Z Z Z) ?_;refine u0 (Q1 Z Z Z Z Z Z Z Z Z) ?_;refine u0 (Q1 Z Z Z Z Z Z Z Z Z) ?_;refine un (QA Z Z Z Z Z Z Z Z Z Z) ?_;refine rt (hL _ ?_);refine Zj (fun (p17 : (List Int) × Bool × (List ByteArray) × (List Qb)) => (⟨[(0, .c (.p (.l 1 (List.map (eI .u8) a0)))), (2, .c (.ptr (2, 0) 0 0)), (4, .c (.p (.v (.int .u8 v1.1)))), (6, .c (.p (.v (.int .i64 v1.2.2.1)))), (8, .c (.ptr (27, 0) 0 0)), (9, .c (.ptr (9, 0) 0 0))], [((2, 0), some (.box ([.p (.v (.int .i64 0)), .p (.v (.string ByteArray.empty)), .p (.v (.string ByteArray.empty)), .p (.v (.slice none 0 0)), .p (.v (.int .i64 0)), .p (.v (.int .i64 0)), .p (.v (.int .i64 0)), .p (.v (.int .u64 0)), .p (.v (.slice none 0 0)), .p (.v (.slice none 0 0)), .p (.v (.int .i64 0)), .p (.v (.int .i64 0)), .p (.v (.int .i64 0)), .p (.v (.int .i64 0)), .p (.v (.int .i64 0)), .p (.v (.int .i64 0)), .p (.v (.int .i64 0)), .p (.v (.string ByteArray.empty)), .p (.v (.int .i64 0)), .p (.v (.int .i64 0)), .p (.v (.int .i64 0)), .p (.v (.slice none 0 0))]))), ((27, 0), some (.box ([.p (.l 1 (List.map (eI .u8) p17.1)), .p (.v (.bool p17.2.1))]))), ((9, 2003), some (.row 1 (List.map eS p17.2.2.1) true)), ((9, 2008), some (.row 2 (List.map QR p17.2.2.2) true)), ((9, 0), some (.box ([.p (.v (.int .i64 v3.1)), .p (.v (.string v4.1)), .p (.v (.string v5.1)), .sl (9, 2003) 0 (List.map eS p17.2.2.1).length, .p (.v (.int .i64 v13.1)), .p (.v (.int .i64 v14.1)), .p (.v (.int .i64 v15.1)), .p (.v (.int .u64 v16.1)), .sl (9, 2008) 0 (List.map QR p17.2.2.2).length, .p (.v (.slice none 0 0)), .p (.v (.int .i64 0)), .p (.v (.int .i64 0)), .p (.v (.int .i64 0)), .p (.v (.int .i64 0)), .p (.v (.int .i64 0)), .p (.v (.int .i64 0)), .p (.v (.int .i64 0)), .p (.v (.string ByteArray.empty)), .p (.v (.int .i64 0)), .p (.v (.int .i64 0)), .p (.v (.int .i64 0)), .p (.v (.slice none 0 0))])))]⟩ : St)) h (fun p17 h => ?_) (fun J17 L17 hL17 h => ?_)
      · refine tk fun L hL => ?_;refine mv Z ?_;obtain ⟨v25, hv25, h⟩ := h;refine ul (Za (ZJ _  _ hv25) Z Z Z Z Z (.pp (.pp .nil)) .nil Z Z Z Z Z) ?_;obtain ⟨hm26, h⟩ := h;refine u0 (FL hm26 Z Z Z Z Z Z Z) ?_;refine u0 (Q1 Z Z Z Z Z Z Z Z Z) ?_;refine un (QA Z Z Z Z Z Z Z Z Z Z) ?_;refine rt (hL _ ?_);refine tk fun L hL => ?_;refine mv Z ?_;obtain ⟨v27, hv27, h⟩ := h;refine ul (Za (QU _  _ hv27) Z Z Z Z Z (.pp (.pp .nil)) .nil Z Z Z Z Z) ?_;refine mv Z ?_;obtain ⟨v28, hv28, h⟩ := h;refine ul (Za (QU _  _ hv28) Z Z Z Z Z (.pp (.pp .nil)) .nil Z Z Z Z Z) ?_;refine mv Z ?_;obtain ⟨v29, hv29, h⟩ := h;refine ul (Za (QU _  _ hv29) Z Z Z Z Z (.pp (.pp .nil)) .nil Z Z Z Z Z) ?_;refine u0 (Q1 Z Z Z Z Z Z Z Z Z) ?_;refine un (QA Z Z Z Z Z Z Z Z Z Z) ?_;refine u0 (Q1 Z Z Z Z Z Z Z Z Z) ?_;refine un (QA Z Z Z Z Z Z Z Z Z Z) ?_;refine u0 (Q1 Z Z Z Z Z Z Z Z Z) ?_;refine un (QA Z Z Z Z Z Z Z Z Z Z) ?_;refine rt (hL _ ?_);refine tk fun L hL => ?_;refine mv Z ?_;obtain ⟨v30, hv30, h⟩ := h;refine ul (Za (QU _  _ hv30) Z Z Z Z Z (.pp (.pp .nil)) .nil Z Z Z Z Z) ?_
        refine mv Z ?_;obtain ⟨v31, hv31, h⟩ := h;refine ul (Za (QU _  _ hv31) Z Z Z Z Z (.pp (.pp .nil)) .nil Z Z Z Z Z) ?_;refine mv Z ?_;obtain ⟨v32, hv32, h⟩ := h;refine ul (Za (QU _  _ hv32) Z Z Z Z Z (.pp (.pp .nil)) .nil Z Z Z Z Z) ?_;refine u0 (Q1 Z Z Z Z Z Z Z Z Z) ?_;refine un (QA Z Z Z Z Z Z Z Z Z Z) ?_;refine u0 (Q1 Z Z Z Z Z Z Z Z Z) ?_;refine un (QA Z Z Z Z Z Z Z Z Z Z) ?_;refine u0 (Q1 Z Z Z Z Z Z Z Z Z) ?_;refine un (QA Z Z Z Z Z Z Z Z Z Z) ?_;refine rt (hL _ ?_);refine tk fun L hL => ?_;refine mv Z ?_;obtain ⟨v33, hv33, h⟩ := h;refine ul (Za (QU _  _ hv33) Z Z Z Z Z (.pp (.pp .nil)) .nil Z Z Z Z Z) ?_;refine mv Z ?_;obtain ⟨v34, hv34, h⟩ := h;refine ul (Za (ZJ _  _ hv34) Z Z Z Z Z (.pp (.pp .nil)) .nil Z Z Z Z Z) ?_;refine u0 (Qi Z Z Z Z Z Z Z) ?_;refine u0 (Q1 Z Z Z Z Z Z Z Z Z) ?_;refine un (Qg Z Z Z Z Z Z Z Z Z) ?_;refine rt (hL _ ?_);refine tk fun L hL => ?_;refine mv Z ?_;obtain ⟨v35, hv35, h⟩ := h;refine ul (Za (QU _  _ hv35) Z Z Z Z Z (.pp (.pp .nil)) .nil Z Z Z Z Z) ?_
        refine mv Z ?_;obtain ⟨v36, hv36, h⟩ := h;refine ul (Za (QU _  _ hv36) Z Z Z Z Z (.pp (.pp .nil)) .nil Z Z Z Z Z) ?_;refine mv Z ?_;obtain ⟨v37, hv37, h⟩ := h;refine ul (Za (QU _  _ hv37) Z Z Z Z Z (.pp (.pp .nil)) .nil Z Z Z Z Z) ?_;refine u0 (Q1 Z Z Z Z Z Z Z Z Z) ?_;refine u0 (Q1 Z Z Z Z Z Z Z Z Z) ?_;refine un (QA Z Z Z Z Z Z Z Z Z Z) ?_;refine u0 (Q1 Z Z Z Z Z Z Z Z Z) ?_;refine u0 (Q1 Z Z Z Z Z Z Z Z Z) ?_;refine un (QA Z Z Z Z Z Z Z Z Z Z) ?_;refine u0 (Q1 Z Z Z Z Z Z Z Z Z) ?_;refine u0 (Q1 Z Z Z Z Z Z Z Z Z) ?_;refine un (QA Z Z Z Z Z Z Z Z Z Z) ?_;refine rt (hL _ ?_);refine Zc (st' := ⟨[(0, .c (.p (.l 1 (List.map (eI .u8) a0)))), (2, .c (.ptr (2, 0) 0 0)), (4, .c (.p (.v (.int .u8 v1.1)))), (6, .c (.p (.v (.int .i64 v1.2.2.1)))), (8, .c (.ptr (27, 0) 0 0)), (9, .c (.ptr (9, 0) 0 0))], [((2, 0), some (.box ([.p (.v (.int .i64 0)), .p (.v (.string ByteArray.empty)), .p (.v (.string ByteArray.empty)), .p (.v (.slice none 0 0)), .p (.v (.int .i64 0)), .p (.v (.int .i64 0)), .p (.v (.int .i64 0)), .p (.v (.int .u64 0)), .p (.v (.slice none 0 0)), .p (.v (.slice none 0 0)), .p (.v (.int .i64 0)), .p (.v (.int .i64 0)), .p (.v (.int .i64 0)), .p (.v (.int .i64 0)), .p (.v (.int .i64 0)), .p (.v (.int .i64 0)), .p (.v (.int .i64 0)), .p (.v (.string ByteArray.empty)), .p (.v (.int .i64 0)), .p (.v (.int .i64 0)), .p (.v (.int .i64 0)), .p (.v (.slice none 0 0))]))), ((27, 0), some (.box (List.map CV.p (Yb v37.2)))), ((9, 0), some (.box ([.p (.v (.int .i64 v3.1)), .p (.v (.string v4.1)), .p (.v (.string v5.1)), .sl (9, 2003) 0 (List.map eS p17.2.2.1).length, .p (.v (.int .i64 v13.1)), .p (.v (.int .i64 v14.1)), .p (.v (.int .i64 v15.1)), .p (.v (.int .u64 v16.1)), .sl (9, 2008) 0 (List.map QR p17.2.2.2).length, .p (.l 1 (List.map (eI .u8) (sI v25.1))), .p (.v (.int .i64 v27.1)), .p (.v (.int .i64 v28.1)), .p (.v (.int .i64 v29.1)), .p (.v (.int .i64 v30.1)), .p (.v (.int .i64 v31.1)), .p (.v (.int .i64 v32.1)), .p (.v (.int .i64 v33.1)), .p (.v (.string v34.1)), .p (.v (.int .i64 v35.1)), .p (.v (.int .i64 v36.1)), .p (.v (.int .i64 v37.1)), .p (.v (.slice none 0 0))]))), ((9, 2003), some (.row 1 (List.map eS p17.2.2.1) true)), ((9, 2008), some (.row 2 (List.map QR p17.2.2.2) true))]⟩) (QO.nm [0, 2, 4, 6, 8, 9] [((2, 0), (2, 0)), ((27, 0), (27, 0)), ((9, 0), (9, 0)), ((9, 2003), (9, 2003)), ((9, 2008), (9, 2008))] Z Z) ?_
        refine tk fun L hL => ?_;refine mv Z ?_;obtain ⟨v38, hv38, h⟩ := h;refine ul (Za (ZJ _  _ hv38) Z Z Z Z Z (.pp (.pp .nil)) .nil Z Z Z Z Z) ?_;obtain ⟨hm39, h⟩ := h;refine u0 (FL hm39 Z Z Z Z Z Z Z) ?_;refine u0 (Q1 Z Z Z Z Z Z Z Z Z) ?_;refine un (QA Z Z Z Z Z Z Z Z Z Z) ?_;refine rt (hL _ ?_);refine tk fun L hL => ?_;refine u0 (Q6 Z Z Z Z Z Z Z) ?_;obtain ⟨v40, hv40, h⟩ := h;refine ul (Zs (U1 _ _ hv40) (Yv (K8.cons (.o (WB MF)) (K8.cons (.p Z) K8.nil))) Z Z (.cons (.agg (.pp (.pp (.pp (.cons (.fr Z (Z2 Z)) (.pp (.pp (.pp (.pp (.cons (.fr Z (Z2 Z)) (.pp (.pp (.pp (.pp (.pp (.pp (.pp (.pp (.pp (.pp (.pp (.pp (.pp .nil))))))))))))))))))))))) .nil) Z Z Z) ?_;refine u0 (QV Z Z) ?_;refine u0 (Qa Z Z Z) ?_;refine u0 (Qa Z Z Z) ?_;refine Qk Z Z ?_;refine Qk Z Z ?_;refine rt (hL _ ?_);refine sk fun L41 hL41 => ?_;refine tk fun L hL => ?_;refine mv Z ?_;refine u0 (Q5 (c := (v1.1 != 79)) Z Z Z Z Z) ?_;refine mv Z ?_;refine Q4 Z Z Qh (fun hg => Qe Z Z) ?_;refine Q4 Z Z Qh (fun hg => Qe Z Z) ?_;refine Q4 Z Z Qh (fun hg => Qs (Qj hg) Z Z Z) ?_
        refine Q4 Z Z Qh (fun hg => Q5 (c := (v1.2.2.1 != ((a0.length : Int)))) (Qj hg) (Qj hg) Z Z Z) ?_;refine u0 (Qt (v := .bool true) (w := .bool ((v1.2.2.1 != ((a0.length : Int))))) Z Z Qh Z QF Z Z Z) ?_;refine mv Z ?_;refine Q4 Z Z Qh (fun hg => Qe Z Z) ?_;refine Q4 Z Z Qh (fun hg => Zx (Qj hg) Z Z) ?_;refine Q4 Z Z Qh (fun hg => Q1 (Qj hg) Z Z Z Z Z Z Z Z) ?_;refine Q4 Z Z Qh (fun hg => Q2 (Qj hg) Z Z Z Z Z) ?_;refine u0 (Qt (v := .bool true) (w := .bool v38.2.fbad) Z Z Qh Z QF Z Z Z) ?_;refine mv Z ?_;refine Q4 Z Z Qh (fun hg => Qe Z Z) ?_;refine Q4 Z Z Qh (fun hg => Q5 (c := (v40.2 != 0)) (Qj hg) Z Z Z Z) ?_;refine u0 (Qt (v := .bool true) (w := .bool ((v40.2 != 0))) Z Z Qh Z QF Z Z Z) ?_;refine mv Z ?_;refine Q4 Z Z Qh (fun hg => Qe Z Z) ?_;refine Q4 Z Z Qh (fun hg => AQ (Qj hg) Z Z Z Z Z Z Z Z Z) ?_;refine Q4 Z Z Qh (fun hg => Qe Z Z) ?_;refine Q4 Z Z Qh (fun hg => Wc (Qj hg) Z Z Z Z Z Z Z) ?_;refine Q4 Z Z Qh (fun hg => Y8 (c := (!((strOfNums v40.1).toList == (strOfNums a0).toList))) (Qj hg) (Qj hg) Z Z Z) ?_
        refine u0 (Qt (v := .bool true) (w := .bool ((!((strOfNums v40.1).toList == (strOfNums a0).toList)))) Z Z Qh Z QF Z Z Z) ?_;refine rt (hL _ ?_);refine Z4 Z h (fun h => ?_) fun h => ?_
        · refine tk fun L hL => ?_;refine u0 (Qi Z Z Z Z Z Z Z) ?_;refine un (Qg Z Z Z Z Z Z Z Z Z) ?_;refine Qk Z Z ?_;refine rt (hL _ ?_);refine Zc (st' := ⟨[(2, .c (.ptr (2, 0) 0 0)), (3, .c (.p (.v (.int .i64 2))))], [((2, 0), some (.box ([.p (.v (.int .i64 0)), .p (.v (.string ByteArray.empty)), .p (.v (.string ByteArray.empty)), .p (.v (.slice none 0 0)), .p (.v (.int .i64 0)), .p (.v (.int .i64 0)), .p (.v (.int .i64 0)), .p (.v (.int .u64 0)), .p (.v (.slice none 0 0)), .p (.v (.slice none 0 0)), .p (.v (.int .i64 0)), .p (.v (.int .i64 0)), .p (.v (.int .i64 0)), .p (.v (.int .i64 0)), .p (.v (.int .i64 0)), .p (.v (.int .i64 0)), .p (.v (.int .i64 0)), .p (.v (.string ByteArray.empty)), .p (.v (.int .i64 0)), .p (.v (.int .i64 0)), .p (.v (.int .i64 0)), .p (.v (.slice none 0 0))])))]⟩) (QO.nm [2, 3] [((2, 0), (2, 0))] Z Z) ?_;obtain rfl := h;exact Q9 (hQ _ _ ⟨.inr Z, _, _, _, (.cons (.cella Z Z Z Z Z) (.cons (.p Z) .nil)), (.cons (.agg (Qr (Qr (Qr (WI Z (Qr (Qr (Qr (Qr (WI Z (Yw (Qr (Qr (Qr (Qr (Qr (Qr (Qr (Qr (Qr (Qr (Qr (Yw .nil))))))))))))))))))))))) (.cons (.c (.p _)) .nil)), Z, Z⟩)
        · refine Qc (hL41 _ ?_);refine Zc (st' := ⟨[(2, .c (.ptr (2, 0) 0 0)), (9, .c (.ptr (9, 0) 0 0))], [((2, 0), some (.box ([.p (.v (.int .i64 0)), .p (.v (.string ByteArray.empty)), .p (.v (.string ByteArray.empty)), .p (.v (.slice none 0 0)), .p (.v (.int .i64 0)), .p (.v (.int .i64 0)), .p (.v (.int .i64 0)), .p (.v (.int .u64 0)), .p (.v (.slice none 0 0)), .p (.v (.slice none 0 0)), .p (.v (.int .i64 0)), .p (.v (.int .i64 0)), .p (.v (.int .i64 0)), .p (.v (.int .i64 0)), .p (.v (.int .i64 0)), .p (.v (.int .i64 0)), .p (.v (.int .i64 0)), .p (.v (.string ByteArray.empty)), .p (.v (.int .i64 0)), .p (.v (.int .i64 0)), .p (.v (.int .i64 0)), .p (.v (.slice none 0 0))]))), ((9, 0), some (.box ([.p (.v (.int .i64 v3.1)), .p (.v (.string v4.1)), .p (.v (.string v5.1)), .sl (9, 2003) 0 (List.map eS p17.2.2.1).length, .p (.v (.int .i64 v13.1)), .p (.v (.int .i64 v14.1)), .p (.v (.int .i64 v15.1)), .p (.v (.int .u64 v16.1)), .sl (9, 2008) 0 (List.map QR p17.2.2.2).length, .p (.l 1 (List.map (eI .u8) (sI v25.1))), .p (.v (.int .i64 v27.1)), .p (.v (.int .i64 v28.1)), .p (.v (.int .i64 v29.1)), .p (.v (.int .i64 v30.1)), .p (.v (.int .i64 v31.1)), .p (.v (.int .i64 v32.1)), .p (.v (.int .i64 v33.1)), .p (.v (.string v34.1)), .p (.v (.int .i64 v35.1)), .p (.v (.int .i64 v36.1)), .p (.v (.int .i64 v37.1)), .p (.l 1 (List.map (eI .u8) (sI v38.1)))]))), ((9, 2003), some (.row 1 (List.map eS p17.2.2.1) true)), ((9, 2008), some (.row 2 (List.map QR p17.2.2.2) true))]⟩) (QO.nm [2, 9] [((2, 0), (2, 0)), ((9, 0), (9, 0)), ((9, 2003), (9, 2003)), ((9, 2008), (9, 2008))] Z Z) ?_
          refine tk fun L hL => ?_;refine u0 (Q6 Z Z Z Z Z Z Z) ?_;refine un (Qg Z Z Z Z Z Z Z Z Z) ?_;refine Qk Z Z ?_;refine rt (hL _ ?_);obtain rfl := h;exact Q9 (hQ _ _ ⟨.inr Z, _, _, _, (.cons (.cella Z Z Z Z Z) (.cons (.p Z) .nil)), (.cons (.agg (Qr (Qr (Qr (.cons (.own Z Z) (Qr (Qr (Qr (Qr (.cons (.own Z Z) (Qr (Qr (Qr (Qr (Qr (Qr (Qr (Qr (Qr (Qr (Qr (Qr (Qr .nil))))))))))))))))))))))) (.cons (.c (.p _)) .nil)), Z, Z⟩)
      · refine tk fun L hL => ?_;refine mv Z ?_;obtain ⟨v18, hv18, h⟩ := h;refine ul (Za (QU _  _ hv18) Z Z Z Z Z (.pp (.pp .nil)) .nil Z Z Z Z Z) ?_;refine Qk Z Z ?_;refine rt (hL _ ?_);refine Qp ?_;refine ZA (fun (s19 : Int × (List Int) × Bool × (List ByteArray) × (List Qb)) => (⟨[(0, .c (.p (.l 1 (List.map (eI .u8) a0)))), (2, .c (.ptr (2, 0) 0 0)), (4, .c (.p (.v (.int .u8 v1.1)))), (6, .c (.p (.v (.int .i64 v1.2.2.1)))), (8, .c (.ptr (27, 0) 0 0)), (9, .c (.ptr (9, 0) 0 0)), (11, .c (.p (.v (.int .i64 s19.1))))], [((2, 0), some (.box ([.p (.v (.int .i64 0)), .p (.v (.string ByteArray.empty)), .p (.v (.string ByteArray.empty)), .p (.v (.slice none 0 0)), .p (.v (.int .i64 0)), .p (.v (.int .i64 0)), .p (.v (.int .i64 0)), .p (.v (.int .u64 0)), .p (.v (.slice none 0 0)), .p (.v (.slice none 0 0)), .p (.v (.int .i64 0)), .p (.v (.int .i64 0)), .p (.v (.int .i64 0)), .p (.v (.int .i64 0)), .p (.v (.int .i64 0)), .p (.v (.int .i64 0)), .p (.v (.int .i64 0)), .p (.v (.string ByteArray.empty)), .p (.v (.int .i64 0)), .p (.v (.int .i64 0)), .p (.v (.int .i64 0)), .p (.v (.slice none 0 0))]))), ((27, 0), some (.box ([.p (.l 1 (List.map (eI .u8) s19.2.1)), .p (.v (.bool s19.2.2.1))]))), ((9, 2003), some (.row 1 (List.map eS s19.2.2.2.1) true)), ((9, 2008), some (.row 2 (List.map QR s19.2.2.2.2) true)), ((9, 0), some (.box ([.p (.v (.int .i64 v3.1)), .p (.v (.string v4.1)), .p (.v (.string v5.1)), .sl (9, 2003) 0 (List.map eS s19.2.2.2.1).length, .p (.v (.int .i64 v13.1)), .p (.v (.int .i64 v14.1)), .p (.v (.int .i64 v15.1)), .p (.v (.int .u64 v16.1)), .sl (9, 2008) 0 (List.map QR s19.2.2.2.2).length, .p (.v (.slice none 0 0)), .p (.v (.int .i64 0)), .p (.v (.int .i64 0)), .p (.v (.int .i64 0)), .p (.v (.int .i64 0)), .p (.v (.int .i64 0)), .p (.v (.int .i64 0)), .p (.v (.int .i64 0)), .p (.v (.string ByteArray.empty)), .p (.v (.int .i64 0)), .p (.v (.int .i64 0)), .p (.v (.int .i64 0)), .p (.v (.slice none 0 0))])))]⟩ : St)) h ((QO.blk (9, 2058) 2 Z Z Z).trans ((QO.cells (9, 0) Z (.c (.c (.c (.c (.c (.c (.c (.c (.cons (.nilo (b := (9, 2058)) Z) (.c (.c (.c (.c (.c (.c (.c (.c (.c (.c (.c (.c (.c .nil))))))))))))))))))))))).trans (QO.nm [0, 2, 4, 6, 8, 9, 11] [((2, 0), (2, 0)), ((27, 0), (27, 0)), ((9, 2003), (9, 2003)), ((9, 2058), (9, 2008)), ((9, 0), (9, 0))] Z (by kernel_rfl)))) (fun X19 L19 hL19 s19 h => ?_)
        refine sk fun L20 hL20 => ?_;refine tk fun L hL => ?_;refine mv Z ?_;refine u0 (Q5 (c := decide (s19.1 > 0)) Z Z Z Z Z) ?_;refine mv Z ?_;refine Q4 Z Z Q8 (fun hg => Qe Z Z) ?_;refine Q4 Z Z Q8 (fun hg => Zx (Qj hg) Z Z) ?_;refine Q4 Z Z Q8 (fun hg => Q1 (Qj hg) Z Z Z Z Z Z Z Z) ?_;refine Q4 Z Z Q8 (fun hg => Q2 (Qj hg) Z Z Z Z Z) ?_;refine Q4 Z Z Q8 (fun hg => QL (Qj hg) Z Z) ?_;refine u0 (Ql (v := .bool (!(s19.2.2.1))) (w := .bool false) Z Z Q8 Z QF Z Z Z) ?_;refine rt (hL _ ?_);refine Z4 Z h (fun h => ?_) fun h => ?_
        · refine Qc (hL20 _ ?_);refine Zc (st' := ⟨[(0, .c (.p (.l 1 (List.map (eI .u8) a0)))), (2, .c (.ptr (2, 0) 0 0)), (4, .c (.p (.v (.int .u8 v1.1)))), (6, .c (.p (.v (.int .i64 v1.2.2.1)))), (8, .c (.ptr (27, 0) 0 0)), (9, .c (.ptr (9, 0) 0 0)), (11, .c (.p (.v (.int .i64 s19.1))))], [((2, 0), some (.box ([.p (.v (.int .i64 0)), .p (.v (.string ByteArray.empty)), .p (.v (.string ByteArray.empty)), .p (.v (.slice none 0 0)), .p (.v (.int .i64 0)), .p (.v (.int .i64 0)), .p (.v (.int .i64 0)), .p (.v (.int .u64 0)), .p (.v (.slice none 0 0)), .p (.v (.slice none 0 0)), .p (.v (.int .i64 0)), .p (.v (.int .i64 0)), .p (.v (.int .i64 0)), .p (.v (.int .i64 0)), .p (.v (.int .i64 0)), .p (.v (.int .i64 0)), .p (.v (.int .i64 0)), .p (.v (.string ByteArray.empty)), .p (.v (.int .i64 0)), .p (.v (.int .i64 0)), .p (.v (.int .i64 0)), .p (.v (.slice none 0 0))]))), ((27, 0), some (.box ([.p (.l 1 (List.map (eI .u8) s19.2.1)), .p (.v (.bool s19.2.2.1))]))), ((9, 0), some (.box ([.p (.v (.int .i64 v3.1)), .p (.v (.string v4.1)), .p (.v (.string v5.1)), .sl (9, 2003) 0 (List.map eS s19.2.2.2.1).length, .p (.v (.int .i64 v13.1)), .p (.v (.int .i64 v14.1)), .p (.v (.int .i64 v15.1)), .p (.v (.int .u64 v16.1)), .sl (9, 2008) 0 (List.map QR s19.2.2.2.2).length, .p (.v (.slice none 0 0)), .p (.v (.int .i64 0)), .p (.v (.int .i64 0)), .p (.v (.int .i64 0)), .p (.v (.int .i64 0)), .p (.v (.int .i64 0)), .p (.v (.int .i64 0)), .p (.v (.int .i64 0)), .p (.v (.string ByteArray.empty)), .p (.v (.int .i64 0)), .p (.v (.int .i64 0)), .p (.v (.int .i64 0)), .p (.v (.slice none 0 0))]))), ((9, 2003), some (.row 1 (List.map eS s19.2.2.2.1) true)), ((9, 2008), some (.row 2 (List.map QR s19.2.2.2.2) true))]⟩) (QO.nm [0, 2, 4, 6, 8, 9, 11] [((2, 0), (2, 0)), ((27, 0), (27, 0)), ((9, 0), (9, 0)), ((9, 2003), (9, 2003)), ((9, 2008), (9, 2008))] Z Z) ?_
          refine sk fun L21 hL21 => ?_;refine Qp ?_;refine tk fun L hL => ?_;refine mv Z ?_;obtain ⟨v22, hv22, h⟩ := h;refine ul (Za (ZJ _  _ hv22) Z Z Z Z Z (.pp (.pp .nil)) .nil Z Z Z Z Z) ?_;refine u0 (Qi Z Z Z Z Z Z Z) ?_;refine u1 (QQ Z Z Z) ?_;refine un (Qg Z Z Z Z Z Z Z Z Z) ?_;refine rt (hL _ ?_);refine tk fun L hL => ?_;refine mv Z ?_;obtain ⟨v23, hv23, h⟩ := h;refine ul (Za (QU _  _ hv23) Z Z Z Z Z (.pp (.pp .nil)) .nil Z Z Z Z Z) ?_;refine u0 (Q1 Z Z Z Z Z Z Z Z Z) ?_;refine un (QA Z Z Z Z Z Z Z Z Z Z) ?_;refine rt (hL _ ?_);refine tl fun L hL => ?_;refine u0 (Q1 Z Z Z Z Z Z Z Z Z) ?_;refine u0 (Q2 Z Z Z Z Z Z) ?_;refine u0 (Q6 Z Z Z Z Z Z Z) ?_;refine ul (Qm (rows := List.map QR [(Qb.mk v22.1 v23.1)]) Z Z Z Z Z Z Z Z Z Z Z Z Z) ?_;obtain ⟨hm24, h⟩ := h;refine ul (QC (f := QR) (L := s19.2.2.2.2) (L' := [(Qb.mk v22.1 v23.1)]) hm24 Z Z Z Z Z Z Z Z Z Z Z (QM QY Z Z Z Z Z Z)) ?_;refine u0 (Q1 Z Z Z Z Z Z Z Z Z) ?_;refine un (QA Z Z Z Z Z Z Z Z Z Z) ?_
          refine rt (hL _ (hL21 _ ?_));refine tl fun L hL => ?_;refine mv Z ?_;refine u0 (Zn Z Z Z Z Z) ?_;refine Qk Z Z ?_;refine rt (hL _ (hL19 _ _ h (QO.nm [0, 2, 4, 6, 8, 9, 11] [((2, 0), (2, 0)), ((27, 0), (27, 0)), ((9, 2003), (9, 2003)), ((90, 0), (9, 2008)), ((9, 0), (9, 0))] Z (by kernel_rfl))))
        · refine Z6 (hL17 _ _ h (QO.nm [0, 2, 4, 6, 8, 9] [((2, 0), (2, 0)), ((27, 0), (27, 0)), ((9, 2003), (9, 2003)), ((9, 2008), (9, 2008)), ((9, 0), (9, 0))] Z (by kernel_rfl)))
    · refine tk fun L hL => ?_;refine mv Z ?_;obtain ⟨v7, hv7, h⟩ := h;refine ul (Za (QU _  _ hv7) Z Z Z Z Z (.pp (.pp .nil)) .nil Z Z Z Z Z) ?_;refine Qk Z Z ?_;refine rt (hL _ ?_);refine Qp ?_;refine ZA (fun (s8 : Int × (List Int) × Bool × (List ByteArray)) => (⟨[(0, .c (.p (.l 1 (List.map (eI .u8) a0)))), (2, .c (.ptr (2, 0) 0 0)), (4, .c (.p (.v (.int .u8 v1.1)))), (6, .c (.p (.v (.int .i64 v1.2.2.1)))), (8, .c (.ptr (27, 0) 0 0)), (9, .c (.ptr (9, 0) 0 0)), (10, .c (.p (.v (.int .i64 s8.1))))], [((2, 0), some (.box ([.p (.v (.int .i64 0)), .p (.v (.string ByteArray.empty)), .p (.v (.string ByteArray.empty)), .p (.v (.slice none 0 0)), .p (.v (.int .i64 0)), .p (.v (.int .i64 0)), .p (.v (.int .i64 0)), .p (.v (.int .u64 0)), .p (.v (.slice none 0 0)), .p (.v (.slice none 0 0)), .p (.v (.int .i64 0)), .p (.v (.int .i64 0)), .p (.v (.int .i64 0)), .p (.v (.int .i64 0)), .p (.v (.int .i64 0)), .p (.v (.int .i64 0)), .p (.v (.int .i64 0)), .p (.v (.string ByteArray.empty)), .p (.v (.int .i64 0)), .p (.v (.int .i64 0)), .p (.v (.int .i64 0)), .p (.v (.slice none 0 0))]))), ((27, 0), some (.box ([.p (.l 1 (List.map (eI .u8) s8.2.1)), .p (.v (.bool s8.2.2.1))]))), ((9, 2003), some (.row 1 (List.map eS s8.2.2.2) true)), ((9, 0), some (.box ([.p (.v (.int .i64 v3.1)), .p (.v (.string v4.1)), .p (.v (.string v5.1)), .sl (9, 2003) 0 (List.map eS s8.2.2.2).length, .p (.v (.int .i64 0)), .p (.v (.int .i64 0)), .p (.v (.int .i64 0)), .p (.v (.int .u64 0)), .p (.v (.slice none 0 0)), .p (.v (.slice none 0 0)), .p (.v (.int .i64 0)), .p (.v (.int .i64 0)), .p (.v (.int .i64 0)), .p (.v (.int .i64 0)), .p (.v (.int .i64 0)), .p (.v (.int .i64 0)), .p (.v (.int .i64 0)), .p (.v (.string ByteArray.empty)), .p (.v (.int .i64 0)), .p (.v (.int .i64 0)), .p (.v (.int .i64 0)), .p (.v (.slice none 0 0))])))]⟩ : St)) h ((QO.blk (9, 2053) 1 Z Z Z).trans ((QO.cells (9, 0) Z (.c (.c (.c (.cons (.nilo (b := (9, 2053)) Z) (.c (.c (.c (.c (.c (.c (.c (.c (.c (.c (.c (.c (.c (.c (.c (.c (.c (.c .nil))))))))))))))))))))))).trans (QO.nm [0, 2, 4, 6, 8, 9, 10] [((2, 0), (2, 0)), ((27, 0), (27, 0)), ((9, 2053), (9, 2003)), ((9, 0), (9, 0))] Z (by kernel_rfl)))) (fun X8 L8 hL8 s8 h => ?_)
      refine sk fun L9 hL9 => ?_;refine tk fun L hL => ?_;refine mv Z ?_;refine u0 (Q5 (c := decide (s8.1 > 0)) Z Z Z Z Z) ?_;refine mv Z ?_;refine Q4 Z Z Q8 (fun hg => Qe Z Z) ?_;refine Q4 Z Z Q8 (fun hg => Zx (Qj hg) Z Z) ?_;refine Q4 Z Z Q8 (fun hg => Q1 (Qj hg) Z Z Z Z Z Z Z Z) ?_;refine Q4 Z Z Q8 (fun hg => Q2 (Qj hg) Z Z Z Z Z) ?_;refine Q4 Z Z Q8 (fun hg => QL (Qj hg) Z Z) ?_;refine u0 (Ql (v := .bool (!(s8.2.2.1))) (w := .bool false) Z Z Q8 Z QF Z Z Z) ?_;refine rt (hL _ ?_);refine Z4 Z h (fun h => ?_) fun h => ?_
      · refine Qc (hL9 _ ?_);refine Zc (st' := ⟨[(0, .c (.p (.l 1 (List.map (eI .u8) a0)))), (2, .c (.ptr (2, 0) 0 0)), (4, .c (.p (.v (.int .u8 v1.1)))), (6, .c (.p (.v (.int .i64 v1.2.2.1)))), (8, .c (.ptr (27, 0) 0 0)), (9, .c (.ptr (9, 0) 0 0)), (10, .c (.p (.v (.int .i64 s8.1))))], [((2, 0), some (.box ([.p (.v (.int .i64 0)), .p (.v (.string ByteArray.empty)), .p (.v (.string ByteArray.empty)), .p (.v (.slice none 0 0)), .p (.v (.int .i64 0)), .p (.v (.int .i64 0)), .p (.v (.int .i64 0)), .p (.v (.int .u64 0)), .p (.v (.slice none 0 0)), .p (.v (.slice none 0 0)), .p (.v (.int .i64 0)), .p (.v (.int .i64 0)), .p (.v (.int .i64 0)), .p (.v (.int .i64 0)), .p (.v (.int .i64 0)), .p (.v (.int .i64 0)), .p (.v (.int .i64 0)), .p (.v (.string ByteArray.empty)), .p (.v (.int .i64 0)), .p (.v (.int .i64 0)), .p (.v (.int .i64 0)), .p (.v (.slice none 0 0))]))), ((27, 0), some (.box ([.p (.l 1 (List.map (eI .u8) s8.2.1)), .p (.v (.bool s8.2.2.1))]))), ((9, 0), some (.box ([.p (.v (.int .i64 v3.1)), .p (.v (.string v4.1)), .p (.v (.string v5.1)), .sl (9, 2003) 0 (List.map eS s8.2.2.2).length, .p (.v (.int .i64 0)), .p (.v (.int .i64 0)), .p (.v (.int .i64 0)), .p (.v (.int .u64 0)), .p (.v (.slice none 0 0)), .p (.v (.slice none 0 0)), .p (.v (.int .i64 0)), .p (.v (.int .i64 0)), .p (.v (.int .i64 0)), .p (.v (.int .i64 0)), .p (.v (.int .i64 0)), .p (.v (.int .i64 0)), .p (.v (.int .i64 0)), .p (.v (.string ByteArray.empty)), .p (.v (.int .i64 0)), .p (.v (.int .i64 0)), .p (.v (.int .i64 0)), .p (.v (.slice none 0 0))]))), ((9, 2003), some (.row 1 (List.map eS s8.2.2.2) true))]⟩) (QO.nm [0, 2, 4, 6, 8, 9, 10] [((2, 0), (2, 0)), ((27, 0), (27, 0)), ((9, 0), (9, 0)), ((9, 2003), (9, 2003))] Z Z) ?_
        refine sk fun L10 hL10 => ?_;refine Qp ?_;refine dl mixed (fun L hL => ?_);refine u0 (Q1 Z Z Z Z Z Z Z Z Z) ?_;refine u0 (Q2 Z Z Z Z Z Z) ?_;refine mv Z ?_;obtain ⟨v11, hv11, h⟩ := h;refine ul (Za (ZJ _  _ hv11) Z Z Z Z Z (.pp (.pp .nil)) .nil Z Z Z Z Z) ?_;refine ul (Qm (rows := List.map eS [v11.1]) Z Z Z Z Z Z Z Z Z Z Z Z Z) ?_;obtain ⟨hm12, h⟩ := h;refine ul (QC (f := eS) (L := s8.2.2.2) (L' := [v11.1]) hm12 Z Z Z Z Z Z Z Z Z Z Z (QM QY Z Z Z Z Z Z)) ?_;refine u0 (Q1 Z Z Z Z Z Z Z Z Z) ?_;refine un (QA Z Z Z Z Z Z Z Z Z Z) ?_;refine rd (hL _ (hL10 _ ?_));refine tl fun L hL => ?_;refine mv Z ?_;refine u0 (Zn Z Z Z Z Z) ?_;refine Qk Z Z ?_;refine rt (hL _ (hL8 _ _ h (QO.nm [0, 2, 4, 6, 8, 9, 10] [((2, 0), (2, 0)), ((27, 0), (27, 0)), ((53, 0), (9, 2003)), ((9, 0), (9, 0))] Z (by kernel_rfl))))
      · refine Z6 (hL6 _ _ h (QO.nm [0, 2, 4, 6, 8, 9] [((2, 0), (2, 0)), ((27, 0), (27, 0)), ((9, 2003), (9, 2003)), ((9, 0), (9, 0))] Z (by kernel_rfl)))
def Uw  (Q : Bool → Prop) : Prop :=
 ∃ (v1 : (List Int) × Int), KW (Qu.mk 4 ByteArray.empty ByteArray.empty ([] : (List ByteArray)) (Qn.mk 0 0 0 0) ([] : (List Qb)) ([] : (List Int)) 0 0 0 0 0 0 (Qz.mk 0 ByteArray.empty 0 0 0) ([] : (List Int))) v1 ∧ ∃ (v2 : Qu × Int), JH v1.1 v2 ∧ ∃ (v3 : Int), (((bif (bif (v1.2 == 0) then (v2.2 == 0) else false) then (v2.1.fKind == 4) else false)) = true → K5 (Qu.mk 4 ((⟨#[97]⟩ : ByteArray)) ByteArray.empty ([] : (List ByteArray)) (Qn.mk 0 0 0 0) ([] : (List Qb)) ([] : (List Int)) 0 0 0 0 0 0 (Qz.mk 0 ByteArray.empty 0 0 0) ([] : (List Int))) v3) ∧ ∃ (v4 : Bool), (((bif (bif (bif (v1.2 == 0) then (v2.2 == 0) else false) then (v2.1.fKind == 4) else false) then (v3 == 18) else false)) = true → Ye 4 v4) ∧ ∃ (v5 : Bool), (((bif (bif (bif (bif (v1.2 == 0) then (v2.2 == 0) else false) then (v2.1.fKind == 4) else false) then (v3 == 18) else false) then v4 else false)) = true → Ye 6 v5) ∧ Q (((bif (bif (bif (bif (bif (v1.2 == 0) then (v2.2 == 0) else false) then (v2.1.fKind == 4) else false) then (v3 == 18) else false) then v4 else false) then !(v5) else false)))
def Y5  (r : Bool) : Prop := Uw  fun x => r = x
theorem GG  (r : Bool) (h : Y5  r) : Qq Tryz.prog 10 [] [.c (.p (.v (.bool r)))] [] := by
  refine Qo tb Tryz.func10 Z (by kernel_rfl) Z Z (Nat.le_of_ble_eq_true Z) Z ?_;intro E;unfold Y5 Uw at h;refine Zi (fun Q hQ => ?_);refine tk fun L hL => ?_;refine Qk Z Z ?_;refine rt (hL _ ?_);refine tk fun L hL => ?_;refine u0 (Qi Z Z Z Z Z Z Z) ?_;obtain ⟨v1, hv1, h⟩ := h;refine ul (QT (U1 _ _ hv1) Z Z (.cons (.agg (.pp (.pp (.pp (.cons (.nil _) (.pp (.pp (.pp (.pp (.cons (.nil _) (.cons (.nil _) (.pp (.pp (.pp (.pp (.pp (.pp (.pp (.pp (.pp (.pp (.pp (.cons (.nil _) .nil))))))))))))))))))))))) .nil) Z Z Z) ?_;refine u0 (QV Z Z) ?_;refine u0 (Qa Z Z Z) ?_;refine u0 (Qa Z Z Z) ?_;refine Qk Z Z ?_;refine Qk Z Z ?_;refine rt (hL _ ?_);refine tk fun L hL => ?_;refine mv Z ?_;obtain ⟨v2, hv2, h⟩ := h;refine ul (QT (Cv _ _ hv2) Z Z (.cons (.c (.fr Z (Z2 Z))) .nil) Z Z Z) ?_;refine u0 (QV Z Z) ?_;refine u0 (ZM Z Z Z) ?_;refine u0 (Qa Z Z Z) ?_;refine u1 (QQ Z Z Z) ?_;refine un (Qg Z Z Z Z Z Z Z Z Z) ?_;refine Qk Z Z ?_;refine rt (hL _ ?_);refine tk fun L hL => ?_;refine mv Z ?_;refine u0 (Q5 (c := (v1.2 == 0)) Z Z Z Z Z) ?_
  refine mv Z ?_;refine Q4 Z Z Q8 (fun hg => Qe Z Z) ?_;refine Q4 Z Z Q8 (fun hg => Q5 (c := (v2.2 == 0)) (Qj hg) Z Z Z Z) ?_;refine u0 (Ql (v := .bool ((v2.2 == 0))) (w := .bool false) Z Z Q8 Z QF Z Z Z) ?_;refine mv Z ?_;refine Q4 Z Z Q8 (fun hg => Q1 Z Z Z Z Z Z Z Z Z) ?_;refine Q4 Z Z Q8 (fun hg => Q2 (Qj hg) Z Z Z Z Z) ?_;refine Q4 Z Z Q8 (fun hg => Q5 (c := (v2.1.fKind == 4)) (Qj hg) Z Z Z Z) ?_;refine u0 (Ql (v := .bool ((v2.1.fKind == 4))) (w := .bool false) Z Z Q8 Z QF Z Z Z) ?_;refine mv Z ?_;refine Q4 Z Z Q8 (fun hg => Qi Z Z Z Z Z Z Z) ?_;obtain ⟨v3, hv3, h⟩ := h;refine Q4 Z Z Q8 (fun hg => Q7 (Je _ _ (hv3 hg)) Z Z (.cons (Zw hg (.agg (.pp (.pp (.pp (.cons (.nil _) (.pp (.pp (.pp (.pp (.cons (.nil _) (.cons (.nil _) (.pp (.pp (.pp (.pp (.pp (.pp (.pp (.pp (.pp (.pp (.pp (.cons (.nil _) .nil)))))))))))))))))))))))) .nil) Z Z Z) ?_;refine Q4 Z Z Q8 (fun hg => Q5 (c := (v3 == 18)) (Qj hg) Z Z Z Z) ?_;refine u0 (Ql (v := .bool ((v3 == 18))) (w := .bool false) Z Z Q8 Z QF Z Z Z) ?_;refine mv Z ?_
  obtain ⟨v4, hv4, h⟩ := h;refine Q4 Z Z Q8 (fun hg => Q7 (WX _ _ (hv4 hg)) Z Z (.cons (.c (.p _)) .nil) Z Z Z) ?_;refine u0 (Ql (v := .bool v4) (w := .bool false) Z Z Q8 Z QF Z Z Z) ?_;refine mv Z ?_;obtain ⟨v5, hv5, h⟩ := h;refine Q4 Z Z Q8 (fun hg => Q7 (WX _ _ (hv5 hg)) Z Z (.cons (.c (.p _)) .nil) Z Z Z) ?_;refine Q4 Z Z Q8 (fun hg => QL (Qj hg) Z Z) ?_;refine u0 (Ql (v := .bool (!(v5))) (w := .bool false) Z Z Q8 Z QF Z Z Z) ?_;refine Qk Z Z ?_;refine rt (hL _ ?_);obtain rfl := h;exact Q9 (hQ _ _ (ZO Z Z))
def JI (a0 : (List Int)) (a1 : Int) (a2 : Int) (Q : Bool → Prop) : Prop :=
 ∃ (v1 : Qu), UH a0 0 v1 ∧ ∃ (v2 : Qu), XQ (Qu.mk v1.fKind v1.fName v1.fOther v1.fNames v1.fParams v1.fItems v1.fCoins v1.fExpected v1.fSource v1.fHandle v1.fIndex v1.fCursor v1.fCount v1.fQuery v1.fData) a1 v2 ∧ ∃ (v3 : Qu), XQ v2 a2 v3 ∧ ∃ (v4 : Int), K5 (Qu.mk v1.fKind v1.fName v1.fOther v1.fNames v1.fParams v1.fItems v1.fCoins v1.fExpected v1.fSource v1.fHandle v1.fIndex v1.fCursor v1.fCount v1.fQuery v1.fData) v4 ∧ ∃ (v5 : Int), (((v4 == 0)) = true → K5 v2 v5) ∧ ∃ (v6 : Int), (((v4 == 0)) = true → Jx v2 v6) ∧ ∃ (v7 : Int), (((bif (v4 == 0) then (v5 == v6) else false)) = true → K5 v3 v7) ∧ ∃ (v8 : Int), (((bif (v4 == 0) then (v5 == v6) else false)) = true → Jx v3 v8) ∧ ∃ (v9 : Bool), (((bif (bif (v4 == 0) then (v5 == v6) else false) then (v7 == v8) else false)) = true → Y5  v9) ∧ Q (((bif (bif (bif (v4 == 0) then (v5 == v6) else false) then (v7 == v8) else false) then v9 else false)))
def KB (a0 : (List Int)) (a1 : Int) (a2 : Int) (r : Bool) : Prop := JI a0 a1 a2 fun x => r = x
theorem U3 (a0 : (List Int)) (a1 : Int) (a2 : Int) (r : Bool) (h : KB a0 a1 a2 r) : Qq Tryz.prog 3 [.c (.l 1 (List.map (eI .i64) a0)), .c (.v (.int .i64 a1)), .c (.v (.int .i64 a2))] [.c (.p (.v (.bool r)))] [] := by
  refine Qo tb Tryz.func3 Z (by kernel_rfl) Z Z (Nat.le_of_ble_eq_true Z) Z ?_;intro E;unfold KB JI at h;refine Zi (fun Q hQ => ?_);refine tk fun L hL => ?_;refine Qk Z Z ?_;refine rt (hL _ ?_);refine tk fun L hL => ?_;refine mv Z ?_;obtain ⟨v1, hv1, h⟩ := h;refine ul (QT (Nr _ _ _ hv1) Z Z (.cons (.c (.p _)) (.cons (.c (.p _)) .nil)) Z Z Z) ?_;refine u1 (QQ Z Z Z) ?_;refine un (Qg Z Z Z Z Z Z Z Z Z) ?_;refine rt (hL _ ?_);refine tk fun L hL => ?_;refine u0 (Q6 Z Z Z Z Z Z Z) ?_;refine mv Z ?_;obtain ⟨v2, hv2, h⟩ := h;refine ul (QT (Dh _ _ _ hv2) Z Z (.cons (.agg (.pp (.pp (.pp (.pp (.pp (.pp (.pp (.pp (.cons (.fr Z (Z2 Z)) (.pp (.pp (.pp (.pp (.pp (.pp (.pp (.pp (.pp (.pp (.pp (.pp (.cons (.fr Z (Z2 Z)) .nil))))))))))))))))))))))) (.cons (.c (.p _)) .nil)) Z Z Z) ?_;refine u1 (QQ Z Z Z) ?_;refine un (Qg Z Z Z Z Z Z Z Z Z) ?_;refine rt (hL _ ?_);refine tk fun L hL => ?_;refine u0 (Q6 Z Z Z Z Z Z Z) ?_;refine mv Z ?_;obtain ⟨v3, hv3, h⟩ := h;refine u0 (Q7 (Dh _ _ _ hv3) Z Z (.cons (.agg (.pp (.pp (.pp (.pp (.pp (.pp (.pp (.pp (.pp (.pp (.pp (.pp (.pp (.pp (.pp (.pp (.pp (.pp (.pp (.pp (.pp (.pp .nil))))))))))))))))))))))) (.cons (.c (.p _)) .nil)) Z Z Z) ?_
  refine u1 (QQ Z Z Z) ?_;refine un (Qg Z Z Z Z Z Z Z Z Z) ?_;refine rt (hL _ ?_);refine dk mixed (fun L hL => ?_);refine u0 (Q6 Z Z Z Z Z Z Z) ?_;obtain ⟨v4, hv4, h⟩ := h;refine ul (Zs (Je _ _ hv4) (Yv (K8.cons (.p Z) K8.nil)) Z Z (.cons (.agg (.pp (.pp (.pp (.pp (.pp (.pp (.pp (.pp (.cons (.fr Z (Z2 Z)) (.pp (.pp (.pp (.pp (.pp (.pp (.pp (.pp (.pp (.pp (.pp (.pp (.cons (.fr Z (Z2 Z)) .nil))))))))))))))))))))))) .nil) Z Z Z) ?_;refine u0 (Q5 (c := (v4 == 0)) Z Z Z Z Z) ?_;refine mv Z ?_;refine Q4 Z Z Q8 (fun hg => Q6 Z Z Z Z Z Z Z) ?_;obtain ⟨v5, hv5, h⟩ := h;refine Q4 Z Z Q8 (fun hg => Q7 (Je _ _ (hv5 hg)) Z Z (.cons (Zw hg (.agg (.pp (.pp (.pp (.pp (.pp (.pp (.pp (.pp (.pp (.pp (.pp (.pp (.pp (.pp (.pp (.pp (.pp (.pp (.pp (.pp (.pp (.pp .nil)))))))))))))))))))))))) .nil) Z Z Z) ?_;refine Q4 Z Z Q8 (fun hg => Q6 Z Z Z Z Z Z Z) ?_;obtain ⟨v6, hv6, h⟩ := h;refine Q4 Z Z Q8 (fun hg => Q7 (UK _ _ (hv6 hg)) Z Z (.cons (Zw hg (.agg (.pp (.pp (.pp (.pp (.pp (.pp (.pp (.pp (.pp (.pp (.pp (.pp (.pp (.pp (.pp (.pp (.pp (.pp (.pp (.pp (.pp (.pp .nil)))))))))))))))))))))))) .nil) Z Z Z) ?_
  refine Q4 Z Z Q8 (fun hg => Q5 (c := (v5 == v6)) (Qj hg) (Qj hg) Z Z Z) ?_;refine u0 (Ql (v := .bool ((v5 == v6))) (w := .bool false) Z Z Q8 Z QF Z Z Z) ?_;refine mv Z ?_;refine Q4 Z Z Q8 (fun hg => Q6 Z Z Z Z Z Z Z) ?_;obtain ⟨v7, hv7, h⟩ := h;refine Q4 Z Z Q8 (fun hg => Q7 (Je _ _ (hv7 hg)) Z Z (.cons (Zw hg (.agg (.pp (.pp (.pp (.pp (.pp (.pp (.pp (.pp (.pp (.pp (.pp (.pp (.pp (.pp (.pp (.pp (.pp (.pp (.pp (.pp (.pp (.pp .nil)))))))))))))))))))))))) .nil) Z Z Z) ?_;refine Q4 Z Z Q8 (fun hg => Q6 Z Z Z Z Z Z Z) ?_;obtain ⟨v8, hv8, h⟩ := h;refine Q4 Z Z Q8 (fun hg => Q7 (UK _ _ (hv8 hg)) Z Z (.cons (Zw hg (.agg (.pp (.pp (.pp (.pp (.pp (.pp (.pp (.pp (.pp (.pp (.pp (.pp (.pp (.pp (.pp (.pp (.pp (.pp (.pp (.pp (.pp (.pp .nil)))))))))))))))))))))))) .nil) Z Z Z) ?_;refine Q4 Z Z Q8 (fun hg => Q5 (c := (v7 == v8)) (Qj hg) (Qj hg) Z Z Z) ?_;refine u0 (Ql (v := .bool ((v7 == v8))) (w := .bool false) Z Z Q8 Z QF Z Z Z) ?_;refine mv Z ?_;obtain ⟨v9, hv9, h⟩ := h;refine Q4 Z Z Q8 (fun hg => Q7 (GG  _ (hv9 hg)) Z Z .nil Z Z Z) ?_
  refine u0 (Ql (v := .bool v9) (w := .bool false) Z Z Q8 Z QF Z Z Z) ?_;refine Qk Z Z ?_;refine rd (hL _ ?_);obtain rfl := h;exact Q9 (hQ _ _ (ZO Z Z))
end Go.Proofs.YthlaenafkihjiaaGreat
namespace Go.Proofs.YthlaenafkihjiaaGreat
open Go.RowKit
set_option linter.unusedVariables false
set_option linter.unusedSimpArgs false
set_option maxRecDepth 100000
set_option maxHeartbeats 4000000
end Go.Proofs.YthlaenafkihjiaaGreat

namespace Go.Proofs.YthlaenafkihjiaaGreat
open Go.RowKit
set_option linter.unusedVariables false
set_option linter.unusedSimpArgs false
theorem Jh {a b : Bool} : (bif a then b else false) = (a && b) := by cases a <;> rfl
theorem JL {a b : Bool} : (bif a then true else b) = (a || b) := by cases a <;> rfl
theorem U4 {n lo hi : Int} {r : Bool} : Zz n lo hi r ↔ r = wI n lo hi := by
  unfold Zz WY wI; by_cases h : lo ≤ n <;> simp [h]
theorem Bc {n lo hi : Int} {r : Bool} : ZF n lo hi r ↔ r = wI n lo hi := by
  unfold ZF WS wI; by_cases h : lo ≤ n <;> simp [h]
theorem ZT {n lo hi : Int} {r : Bool} : Z0 n lo hi r ↔ r = wI n lo hi := by
  unfold Z0 Up wI; by_cases h : lo ≤ n <;> simp [h]
theorem EX {n lo hi : Int} {r : Bool} : Km n lo hi r ↔ r = wI n lo hi := by
  unfold Km Ww wI; by_cases h : lo ≤ n <;> simp [h]
theorem G0 {n lo hi : Int} {r : Bool} : JF n lo hi r ↔ r = wI n lo hi := by
  unfold JF WZ wI; by_cases h : lo ≤ n <;> simp [h]
theorem GH {c : Int} {r : Bool} : Xe c r ↔ r = wI c 97 122 := by
  unfold Xe Uq wI; by_cases h : (97 : Int) ≤ c <;> simp [h]
theorem GI {c : Int} {r : Bool} : Y4 c r ↔ r = wI c 48 57 := by
  unfold Y4 Ur wI; by_cases h : (48 : Int) ≤ c <;> simp [h]
theorem XW {n lo hi : Int} {r : Int} : Zl n lo hi r ↔ r = if lo ≤ n ∧ n ≤ hi then 0 else 5 := by
  unfold Zl XV
  by_cases h : n < lo
  · simp [h]; rw [if_neg (by omega)]
  · by_cases h2 : n > hi
    · simp [h, h2]; rw [if_neg (by omega)]
    · simp [h, h2]; rw [if_pos (by omega)]
theorem MQ {s : ByteArray} : (decide (1 ≤ (s.size : Int)) && decide ((s.size : Int) ≤ 32)) = decide (1 ≤ s.size ∧ s.size ≤ 32) := by
  rw [Bool.decide_and]; congr 1 <;> exact decide_eq_decide.2 (by omega)
theorem BX {s : ByteArray} {r : Bool} : Xf s r ↔ r = decide (1 ≤ s.size ∧ s.size ≤ 32) := by
  unfold Xf Us; rw [Jh, ← MQ]
theorem VL {s : ByteArray} {r : Bool} : Kx s r ↔ r = decide (1 ≤ s.size ∧ s.size ≤ 32) := by
  unfold Kx A4; rw [Jh, ← MQ]
def Wr (k s d z : Int) : Int :=
  if k = 1 then (if s ≠ 0 ∨ d ≠ 0 ∨ z ≠ 0 then 10 else 0)
  else if k = 2 then (if ¬ (1 ≤ d ∧ d ≤ 8 ∧ 1 ≤ s ∧ s ≤ 64) then 5 else 0)
  else if k = 3 then (if ¬ (2 ≤ s ∧ s ≤ 8) then 5 else if d ≠ 0 then 10 else 0)
  else if k = 4 ∨ k = 5 then (if ¬ (1 ≤ s ∧ s ≤ 32) then 5 else if d ≠ 0 ∨ z ≠ 0 then 10 else 0)
  else if k = 6 then (if ¬ (2 ≤ s ∧ s ≤ 32 ∧ s % 2 = 0) then 5 else if d ≠ 0 ∨ z ≠ 0 then 10 else 0)
  else 8
theorem UM (p : Qn) : Ks p (Wr p.fKind p.fSize p.fDepth p.fSeed) := by
  unfold Ks Vp
  simp only [jn, EX, exists_eq_left, Jh, JL]
  obtain ⟨k, s, d, z⟩ := p
  simp only
  by_cases h1 : k = 1
  · subst h1; by_cases hs : s = 0 <;> by_cases hd : d = 0 <;> by_cases hz : z = 0 <;> simp [Wr, hs, hd, hz]
  by_cases h2 : k = 2
  · subst h2
    by_cases hd : wI d 1 8 = true <;> by_cases hs : wI s 1 64 = true <;> simp [Wr, hs, hd] <;> simp [wI] at hs hd <;> omega
  by_cases h3 : k = 3
  · subst h3
    by_cases hd : d = 0 <;> by_cases hs : wI s 2 8 = true <;> simp [Wr, hs, hd] <;> simp [wI] at hs hd <;> omega
  by_cases h4 : k = 4 ∨ k = 5
  · have hk : (k == 4 || k == 5) = true := by simpa using h4
    by_cases hd : d = 0 <;> by_cases hz : z = 0 <;> by_cases hs : wI s 1 32 = true <;> rcases h4 with rfl | rfl <;> simp [Wr, hs, hd, hz] <;> simp [wI] at hs hd <;> omega
  by_cases h6 : k = 6
  · subst h6
    by_cases hs : wI s 2 32 = true
    · have hs' : 2 ≤ s ∧ s ≤ 32 := by simpa [wI] using hs
      have ht : s.tmod 2 = s % 2 := Int.tmod_eq_emod_of_nonneg (by omega)
      by_cases hm : s % 2 = 0 <;> by_cases hd : d = 0 <;> by_cases hz : z = 0 <;> simp [Wr, hs, hd, hz, ht, hm, hs']
    · have hs' : ¬ (2 ≤ s ∧ s ≤ 32) := by simpa [wI] using hs
      simp [Wr, hs]; omega
  · have h4' : ¬ k = 4 ∧ ¬ k = 5 := by omega
    simp [Wr, h1, h2, h3, h4'.1, h4'.2, h6]
theorem VM (p : Qn) : Zy p (Wr p.fKind p.fSize p.fDepth p.fSeed) := by
  unfold Zy VH
  simp only [jn, Bc, exists_eq_left, Jh, JL]
  obtain ⟨k, s, d, z⟩ := p
  simp only
  by_cases h1 : k = 1
  · subst h1; by_cases hs : s = 0 <;> by_cases hd : d = 0 <;> by_cases hz : z = 0 <;> simp [Wr, hs, hd, hz]
  by_cases h2 : k = 2
  · subst h2
    by_cases hd : wI d 1 8 = true <;> by_cases hs : wI s 1 64 = true <;> simp [Wr, hs, hd] <;> simp [wI] at hs hd <;> omega
  by_cases h3 : k = 3
  · subst h3
    by_cases hd : d = 0 <;> by_cases hs : wI s 2 8 = true <;> simp [Wr, hs, hd] <;> simp [wI] at hs hd <;> omega
  by_cases h4 : k = 4 ∨ k = 5
  · have hk : (k == 4 || k == 5) = true := by simpa using h4
    by_cases hd : d = 0 <;> by_cases hz : z = 0 <;> by_cases hs : wI s 1 32 = true <;> rcases h4 with rfl | rfl <;> simp [Wr, hs, hd, hz] <;> simp [wI] at hs hd <;> omega
  by_cases h6 : k = 6
  · subst h6
    by_cases hs : wI s 2 32 = true
    · have hs' : 2 ≤ s ∧ s ≤ 32 := by simpa [wI] using hs
      have ht : s.tmod 2 = s % 2 := Int.tmod_eq_emod_of_nonneg (by omega)
      by_cases hm : s % 2 = 0 <;> by_cases hd : d = 0 <;> by_cases hz : z = 0 <;> simp [Wr, hs, hd, hz, ht, hm, hs']
    · have hs' : ¬ (2 ≤ s ∧ s ≤ 32) := by simpa [wI] using hs
      simp [Wr, hs]; omega
  · have h4' : ¬ k = 4 ∧ ¬ k = 5 := by omega
    simp [Wr, h1, h2, h3, h4'.1, h4'.2, h6]
def Ux (k : Int) (key : ByteArray) (c n d : Int) : Int :=
  if ¬ (1 ≤ k ∧ k ≤ 7) then 8
  else if (k = 2 ∨ k = 6) ∧ ¬ (1 ≤ key.size ∧ key.size ≤ 32) then 7
  else if k = 5 ∧ ¬ (0 ≤ c ∧ c ≤ 32) then 5
  else if k = 7 ∧ ¬ (1 ≤ d ∧ d ≤ 1000000 ∧ 0 ≤ n ∧ n ≤ d) then 5
  else if (¬ (k = 2 ∨ k = 6) ∧ key.toList ≠ []) ∨ (k ≠ 5 ∧ c ≠ 0) ∨ (k ≠ 7 ∧ (n ≠ 0 ∨ d ≠ 0)) then 18 else 0
theorem Yh : (⟨#[]⟩ : ByteArray).toList = [] := by unfold ByteArray.toList; unfold ByteArray.toList.loop; simp [ByteArray.size]
theorem Ec (q : Qz) : Vq q (Ux q.fKind q.fKey q.fCount q.fNum q.fDen) := by
  unfold Vq W8
  simp only [jn, BX, Jh, JL, Yh]
  obtain ⟨k, s, c, n, d⟩ := q
  simp only
  by_cases hk : 1 ≤ k ∧ k ≤ 7
  · have h7 : k = 1 ∨ k = 2 ∨ k = 3 ∨ k = 4 ∨ k = 5 ∨ k = 6 ∨ k = 7 := by omega
    clear hk; unfold Ux
    generalize s.toList = l
    rcases h7 with rfl | rfl | rfl | rfl | rfl | rfl | rfl
    all_goals simp
    all_goals grind
  · have h1 : k < 1 ∨ k > 7 := by omega
    simp [Ux, hk, h1]
theorem AC (q : Qz) : Kj q (Ux q.fKind q.fKey q.fCount q.fNum q.fDen) := by
  unfold Kj Xh
  simp only [jn, VL, Bc, exists_eq_left, Jh, JL, Yh]
  obtain ⟨k, s, c, n, d⟩ := q
  simp only
  by_cases hk : 1 ≤ k ∧ k ≤ 7
  · have h7 : k = 1 ∨ k = 2 ∨ k = 3 ∨ k = 4 ∨ k = 5 ∨ k = 6 ∨ k = 7 := by omega
    clear hk; unfold Ux
    generalize s.toList = l
    rcases h7 with rfl | rfl | rfl | rfl | rfl | rfl | rfl
    all_goals simp [wI]
    all_goals grind
  · have h1 : k < 1 ∨ k > 7 := by omega
    have h2 : wI k 1 7 = false := by simp [wI]; omega
    simp [Ux, hk, h1, h2]
end Go.Proofs.YthlaenafkihjiaaGreat
namespace Go.Proofs.YthlaenafkihjiaaGreat
open Go.RowKit
set_option linter.unusedVariables false
set_option linter.unusedSimpArgs false
theorem I0 (n : Nat) (hn : n ≤ 4611686018427387904) {B : (Int → Prop) → Int → Prop} {J : Prop} (I : Nat → Prop) (h0 : I 0)
    (hB : ∀ j, j < n → I j → ∀ X : Int → Prop, (I (j + 1) → X (IntKind.i64.wrap ((j : Int) + 1))) → B X (j : Int)) (hJ : I n → J) :
    lp (fun X s => (decide (s < (n : Int)) = true → B X s) ∧ (decide (s < (n : Int)) = false → J)) 0 := by
  refine Kc (I := fun k s => ∃ j : Nat, s = (j : Int) ∧ j ≤ n ∧ k = n - j ∧ I j) ?_ (k := n) ⟨0, rfl, by omega, by omega, h0⟩
  rintro k s ⟨j, rfl, hj, hk, hI⟩ X hX
  refine ⟨fun h => ?_, fun h => ?_⟩
  · have hj2 : (j : Int) < n := by simpa using h
    refine hB j (by omega) hI X fun hI2 => ?_
    rw [Zr (by omega)]
    exact hX (n - (j + 1)) _ (by omega) ⟨j + 1, by omega, by omega, rfl, hI2⟩
  · have hj2 : ¬ (j : Int) < n := by simpa using h
    have : j = n := by omega
    subst this; exact hJ hI
def Be (s : ByteArray) (j : Nat) : Int := if h : j < s.size then (s[j].toNat : Int) else 0
theorem Bf {s : ByteArray} {j : Nat} (h : j < s.size) : bx s (j : Int) (Be s j) := bx_of rfl h (by simp [Be, h])
def OR (c : Int) : Bool := wI c 97 122 || wI c 48 57 || c == 45 || c == 46
def BY (s : ByteArray) : Bool := decide (1 ≤ s.size ∧ s.size ≤ 16) && wI (Be s 0) 97 122 && (List.range s.size).all fun j => OR (Be s j)
theorem MR {s : ByteArray} (h1 : 1 ≤ s.size ∧ s.size ≤ 16) (h2 : wI (Be s 0) 97 122 = true) (h : ∀ i, i < s.size → OR (Be s i) = true) : BY s = true := by
  simp only [BY, h1, h2]; simpa using h
theorem MS {s : ByteArray} {i : Nat} (hi : i < s.size) (h : OR (Be s i) = false) : BY s = false := by
  have : ((List.range s.size).all fun j => OR (Be s j)) = false := by
    rw [List.all_eq_false]; exact ⟨i, by simpa using hi, by simp [h]⟩
  simp [BY, this]
theorem G5 (s : ByteArray) : Xy s (BY s) := by
  unfold Xy WV
  simp only [GH, GI, Jh, JL, jn, exists_eq_left]
  by_cases hz : 1 ≤ s.size ∧ s.size ≤ 16
  · have h1 : decide ((s.size : Int) < 1) = false := by simp; omega
    have h2 : decide ((s.size : Int) > 16) = false := by simp; omega
    rw [h1, h2]
    refine ⟨Be s 0, fun _ => Bf (j := 0) (by omega), wI (Be s 0) 97 122, fun _ => rfl, ?_, ?_⟩
    · intro h; simp at h; simp [BY, h]
    · intro h
      have h3 : wI (Be s 0) 97 122 = true := by simpa using h
      refine I0 s.size (by omega) (fun j => ∀ i, i < j → OR (Be s i) = true) (fun i hi => absurd hi (by omega)) ?_ ?_
      · intro j hj hI X hX
        refine ⟨Be s j, Bf hj, wI (Be s j) 48 57, fun _ => rfl, ?_, ?_⟩
        · intro hb; refine MS hj ?_; simp at hb; simp [OR, hb]
        · intro hb; refine hX fun i hi => ?_
          by_cases e : i = j
          · subst e; unfold OR; revert hb; cases wI (Be s i) 97 122 <;> cases wI (Be s i) 48 57 <;> simp <;> grind
          · exact hI i (by omega)
      · intro hI; exact MR hz h3 hI
  · refine ⟨0, ?_, false, ?_, ?_, ?_⟩
    · intro h; simp at h; omega
    · intro h; simp at h; omega
    · intro h; simp [BY, hz]
    · intro h; simp at h
theorem Uy (s : ByteArray) : V6 s (BY s) := by
  unfold V6 Ut
  simp only [G0, Jh, JL, jn, exists_eq_left]
  by_cases hz : 1 ≤ s.size ∧ s.size ≤ 16
  · have h1 : decide ((s.size : Int) < 1) = false := by simp; omega
    have h2 : decide ((s.size : Int) > 16) = false := by simp; omega
    rw [h1, h2]
    refine ⟨Be s 0, fun _ => Bf (j := 0) (by omega), wI (Be s 0) 97 122, fun _ => rfl, ?_, ?_⟩
    · intro h; simp at h; simp [BY, h]
    · intro h
      have h3 : wI (Be s 0) 97 122 = true := by simpa using h
      refine I0 s.size (by omega) (fun j => ∀ i, i < j → OR (Be s i) = true) (fun i hi => absurd hi (by omega)) ?_ ?_
      · intro j hj hI X hX
        refine ⟨Be s j, Bf hj, Be s j, fun _ => Bf hj, wI (Be s j) 48 57, fun _ => rfl, Be s j, fun _ => Bf hj, Be s j, fun _ => Bf hj, ?_, ?_⟩
        · intro hb; refine MS hj ?_; simp at hb; simp [OR, hb]
        · intro hb; refine hX fun i hi => ?_
          by_cases e : i = j
          · subst e; unfold OR; revert hb; cases wI (Be s i) 97 122 <;> cases wI (Be s i) 48 57 <;> simp <;> grind
          · exact hI i (by omega)
      · intro hI; exact MR hz h3 hI
  · refine ⟨0, ?_, false, ?_, ?_, ?_⟩
    · intro h; simp at h; omega
    · intro h; simp at h; omega
    · intro h; simp [BY, hz]
    · intro h; simp at h
theorem Wa (s : ByteArray) : Jw s (if BY s = true then 0 else 6) := by
  refine ⟨BY s, G5 s, ?_, ?_⟩ <;> intro h <;> simp at h <;> simp [h]
def Fa (x : Qb) : Int := if ¬ (1 ≤ x.fKey.size ∧ x.fKey.size ≤ 32) then 7 else if ¬ (1 ≤ x.fWeight ∧ x.fWeight ≤ 4294967295) then 5 else 0
theorem Bg (x : Qb) : Jd x (Fa x) := by
  unfold Jd Xz Fa
  simp only [BX, Jh, JL, exists_eq_left]
  by_cases h : 1 ≤ x.fKey.size ∧ x.fKey.size ≤ 32 <;> simp [h]; grind
theorem WA (x : Qb) : Zh x (Fa x) := by
  unfold Zh XU Fa
  simp only [VL, Jh, JL, exists_eq_left]
  by_cases h : 1 ≤ x.fKey.size ∧ x.fKey.size ≤ 32 <;> simp [h]; grind
def AD {α : Type} (f : α → Int) : List α → Int
  | [] => 0
  | x :: r => if f x ≠ 0 then f x else AD f r
theorem G6 {α : Type} {f : α → Int} {l : List α} (h : ∀ (j : Nat) x, l[j]? = some x → f x = 0) : AD f l = 0 := by
  induction l with
  | nil => rfl
  | cons x r ih => simp [AD, h 0 x rfl]; exact ih fun j x hx => h (j + 1) x (by simpa using hx)
theorem Fb {α : Type} {f : α → Int} {l : List α} {j : Nat} {x : α} (hx : l[j]? = some x) (hn : f x ≠ 0) (h : ∀ i, i < j → ∀ y, l[i]? = some y → f y = 0) : AD f l = f x := by
  induction l generalizing j with
  | nil => simp at hx
  | cons z r ih =>
    cases j with
    | zero => simp at hx; subst hx; simp [AD, hn]
    | succ j =>
      simp [AD, h 0 (by omega) z rfl]
      exact ih (by simpa using hx) fun i hi y hy => h (i + 1) (by omega) y (by simpa using hy)
theorem Do {α : Type} {l : List α} (hl : l.length ≤ 4611686018427387904) {B : (Int → Prop) → Int → Prop} {J : Prop} {f : α → Int}
    (hB : ∀ (j : Nat) x, l[j]? = some x → (∀ i, i < j → ∀ y, l[i]? = some y → f y = 0) → ∀ X : Int → Prop, (f x = 0 → X (IntKind.i64.wrap ((j : Int) + 1))) → B X (j : Int)) (hJ : AD f l = 0 → J) :
    lp (fun X s => (decide (s < (l.length : Int)) = true → B X s) ∧ (decide (s < (l.length : Int)) = false → J)) 0 := by
  refine I0 l.length hl (fun j => ∀ i, i < j → ∀ y, l[i]? = some y → f y = 0) (fun i hi => absurd hi (by omega)) ?_ ?_
  · intro j hj hI X hX
    obtain ⟨x, hx⟩ : ∃ x, l[j]? = some x := ⟨l[j], by simp [hj]⟩
    refine hB j x hx hI X fun h0 => hX fun i hi y hy => ?_
    by_cases e : i = j
    · subst e; rw [hx] at hy; cases hy; exact h0
    · exact hI i (by omega) y hy
  · intro hI
    refine hJ (G6 fun j x hx => hI j ?_ x hx)
    rw [List.getElem?_eq_some_iff] at hx; exact hx.1
def Bh (s : ByteArray) : Int := if BY s = true then 0 else 6
def Hb (l : List ByteArray) : Int := if ¬ (1 ≤ l.length ∧ l.length ≤ 16) then 5 else AD Bh l
def Hc (l : List Qb) : Int := if ¬ (1 ≤ l.length ∧ l.length ≤ 64) then 5 else AD Fa l
theorem Ed (l : List ByteArray) : Vo l (Hb l) := by
  unfold Vo W7
  simp only [XW, exists_eq_left, jn]
  by_cases hz : 1 ≤ l.length ∧ l.length ≤ 16
  · have e : ((1 : Int) ≤ l.length ∧ (l.length : Int) ≤ 16) := by omega
    rw [if_pos e]
    refine ⟨fun h => by simp at h, fun _ => ?_⟩
    refine Do (f := Bh) (by omega) ?_ ?_
    · intro j x hx hb X hX
      refine ⟨x, V9 rfl hx, Bh x, Wa x, fun h => ?_, fun h => hX (by simpa using h)⟩
      have hn : Bh x ≠ 0 := by simpa using h
      simp only [Hb, hz, not_true, and_self, if_false]; exact Fb hx hn hb
    · intro h; simp [Hb, hz, h]
  · have e : ¬ ((1 : Int) ≤ l.length ∧ (l.length : Int) ≤ 16) := by omega
    rw [if_neg e]
    exact ⟨fun _ => by simp [Hb, hz], fun h => by simp at h⟩
theorem Dp (l : List Qb) : JY l (Hc l) := by
  unfold JY YG
  simp only [XW, exists_eq_left, jn]
  by_cases hz : 1 ≤ l.length ∧ l.length ≤ 64
  · have e : ((1 : Int) ≤ l.length ∧ (l.length : Int) ≤ 64) := by omega
    rw [if_pos e]
    refine ⟨fun h => by simp at h, fun _ => ?_⟩
    refine Do (f := Fa) (by omega) ?_ ?_
    · intro j x hx hb X hX
      refine ⟨x, V9 rfl hx, Fa x, Bg x, fun h => ?_, fun h => hX (by simpa using h)⟩
      have hn : Fa x ≠ 0 := by simpa using h
      simp only [Hc, hz, not_true, and_self, if_false]; exact Fb hx hn hb
    · intro h; simp [Hc, hz, h]
  · have e : ¬ ((1 : Int) ≤ l.length ∧ (l.length : Int) ≤ 64) := by omega
    rw [if_neg e]
    exact ⟨fun _ => by simp [Hc, hz], fun h => by simp at h⟩
theorem KX (x : Int) (l : List Int) (hl : l.length ≤ 100) : K6 x l (l.contains x) := by
  unfold K6 Cu
  simp only [jn]
  refine Do (f := fun y => if y = x then 1 else 0) (by omega) ?_ ?_
  · intro j y hy hb X hX
    refine ⟨y, V9 rfl hy, fun h => ?_, fun h => hX (by simp at h; simp [h])⟩
    simp at h; subst h; simp; exact List.mem_of_getElem? hy
  · intro h
    cases hc : l.contains x with
    | false => rfl
    | true =>
      exfalso
      have hm : x ∈ l := by simpa using hc
      obtain ⟨j, hj⟩ := List.getElem?_of_mem hm
      have : ∀ (l : List Int), x ∈ l → AD (fun y => if y = x then 1 else 0) l ≠ 0 := by
        intro l; induction l with
        | nil => simp
        | cons a r ih => intro h; unfold AD; by_cases e : a = x <;> simp [e]; have := ih (by simpa [Ne.symm e] using h); simpa using this
      exact this l hm h
def Ac (k : Int) : Kn := Kn.mk ([1, 2, 3, 5, 6, 7, 8, 16].contains k) ([3, 7, 8].contains k) ([9].contains k) ([1].contains k) ([6].contains k) ([6, 7, 8].contains k) ([8].contains k) ([10, 11, 12, 15].contains k) ([10, 12, 15].contains k) ([13, 14].contains k) ([13].contains k) ([5, 10].contains k) ([16].contains k)
theorem I1 (k : Int) : YK k (Ac k) := by
  unfold YK Aa
  exact ⟨_, KX _ _ (by simp), _, KX _ _ (by simp), _, KX _ _ (by simp), _, KX _ _ (by simp), _, KX _ _ (by simp), _, KX _ _ (by simp), _, KX _ _ (by simp), _, KX _ _ (by simp), _, KX _ _ (by simp), _, KX _ _ (by simp), _, KX _ _ (by simp), _, KX _ _ (by simp), _, KX _ _ (by simp), rfl⟩
def Ee (x : Qu) (a b : Bool) : Int := if a = true ∧ Hb x.fNames ≠ 0 then Hb x.fNames else if b = true then Hc x.fItems else 0
theorem BZ (x : Qu) (a b : Bool) : Jn x a b (Ee x a b) := by
  have part2 : ((b = true → ∃ v, Zz (x.fItems.length : Int) 1 64 v ∧ ((!v) = true → Hc x.fItems = 5) ∧ ((!v) = false → AD Fa x.fItems = Hc x.fItems))) := by
    intro hb
    refine ⟨_, U4.2 rfl, ?_, ?_⟩ <;> intro h <;> simp [wI] at h <;> simp [Hc] <;> omega
  unfold Jn Uv
  simp only [U4, exists_eq_left, jn]
  have rest : (a = true → Hb x.fNames = 0) → (b = true →
          (((!wI (↑x.fItems.length) 1 64) = true → Ee x a b = 5) ∧
            ((!wI (↑x.fItems.length) 1 64) = false → lp (fun X12 s12 => (decide (s12 < (x.fItems.length : Int)) = true →
                      ∃ v15, ix x.fItems s12 v15 ∧ ∃ v16, Zh v15 v16 ∧ ((v16 != 0) = true → Ee x a b = v16) ∧ ((v16 != 0) = false → X12 (IntKind.i64.wrap (s12 + 1)))) ∧
                    (decide (s12 < (x.fItems.length : Int)) = false → Ee x a b = 0)) 0))) ∧ (b = false → Ee x a b = 0) := by
    intro ha
    have e0 : Ee x a b = if b = true then Hc x.fItems else 0 := by
      unfold Ee; rw [if_neg (fun h => h.2 (ha h.1))]
    rw [e0]
    refine ⟨fun hb => ?_, fun hb => by simp [hb]⟩
    rw [if_pos hb]
    by_cases hz : 1 ≤ x.fItems.length ∧ x.fItems.length ≤ 64
    · have e : wI (x.fItems.length : Int) 1 64 = true := by simp [wI]; omega
      refine ⟨fun h => by simp [e] at h, fun _ => ?_⟩
      refine Do (f := Fa) (by omega) ?_ ?_
      · intro j y hy hbb X hX
        refine ⟨y, V9 rfl hy, Fa y, WA y, fun h => ?_, fun h => hX (by simpa using h)⟩
        have hn : Fa y ≠ 0 := by simpa using h
        simp only [Hc, hz, not_true, and_self, if_false]; exact Fb hy hn hbb
      · intro h; simp [Hc, hz, h]
    · have e : wI (x.fItems.length : Int) 1 64 = false := by simp [wI]; omega
      exact ⟨fun _ => by simp [Hc, hz], fun h => by simp [e] at h⟩
  refine ⟨fun ha => ?_, fun ha => rest (by simp [ha])⟩
  by_cases hz : 1 ≤ x.fNames.length ∧ x.fNames.length ≤ 16
  · have e : wI (x.fNames.length : Int) 1 16 = true := by simp [wI]; omega
    refine ⟨fun h => by simp [e] at h, fun _ => ?_⟩
    refine Do (f := Bh) (by omega) ?_ ?_
    · intro j y hy hbb X hX
      refine ⟨y, V9 rfl hy, BY y, Uy y, fun h => ?_, fun h => hX (by simp at h; simp [Bh, h])⟩
      have hn : Bh y = 6 := by simp at h; simp [Bh, h]
      have : Hb x.fNames = 6 := by
        simp only [Hb, hz, not_true, and_self, if_false]; rw [Fb hy (by simp [hn]) hbb, hn]
      simp [Ee, ha, this]
    · intro h
      exact rest fun _ => by simp [Hb, hz, h]
  · have e : wI (x.fNames.length : Int) 1 16 = false := by simp [wI]; omega
    have : Hb x.fNames = 5 := by simp [Hb, hz]
    exact ⟨fun _ => by simp [Ee, ha, this], fun h => by simp [e] at h⟩
end Go.Proofs.YthlaenafkihjiaaGreat
namespace Go.Proofs.YthlaenafkihjiaaGreat
open Go.RowKit Go.ChangeShapes Go.WideShapes
set_option linter.unusedVariables false
set_option linter.unusedSimpArgs false
theorem Oq (x : Int) (j : Nat) (hj : j ≤ 62) (m : Int) (hm : m = 2 ^ j - 1) : bits BinOp.and IntKind.i64 x m = x % 2 ^ j := by
  have hp : (2 : Nat) ^ j ≤ 2 ^ 62 := Nat.pow_le_pow_right (by omega) hj
  have hp1 : 1 ≤ (2 : Nat) ^ j := Nat.one_le_two_pow
  have e0 : (2 : Int) ^ j = ((2 ^ j : Nat) : Int) := by simp
  have e1 : m = ((2 ^ j - 1 : Nat) : Int) := by rw [hm, e0]; omega
  show IntKind.i64.wrap ((BitVec.ofInt 64 x &&& BitVec.ofInt 64 m).toNat : Int) = _
  rw [BitVec.toNat_and, e1, BitVec.ofInt_natCast, BitVec.toNat_ofNat, Nat.mod_eq_of_lt (a := 2 ^ j - 1) (by omega), Nat.and_two_pow_sub_one_eq_mod, BitVec.toNat_ofInt]
  have hd : ((2 ^ j : Nat) : Int) ∣ (2 ^ 64 : Nat) := by
    refine ⟨((2 ^ (64 - j) : Nat) : Int), ?_⟩
    rw [← Int.natCast_mul, ← Nat.pow_add, show j + (64 - j) = 64 from by omega]
  have h2 : ((x % ((2 ^ 64 : Nat) : Int)).toNat % 2 ^ j : Nat) = (x % (2 ^ j : Nat)).toNat := by
    have hx0 : 0 ≤ x % ((2 ^ 64 : Nat) : Int) := Int.emod_nonneg _ (by decide)
    have hx1 : 0 ≤ x % ((2 ^ j : Nat) : Int) := Int.emod_nonneg _ (by omega)
    apply Int.ofNat.inj
    show (((x % ((2 ^ 64 : Nat) : Int)).toNat % 2 ^ j : Nat) : Int) = (((x % (2 ^ j : Nat)).toNat : Nat) : Int)
    rw [Int.natCast_emod, Int.toNat_of_nonneg hx0, Int.toNat_of_nonneg hx1, Int.emod_emod_of_dvd _ hd]
  rw [h2, Int.toNat_of_nonneg (Int.emod_nonneg _ (by omega)), e0, IntKind.wrap_i64]
  have hb0 : 0 ≤ x % ((2 ^ j : Nat) : Int) := Int.emod_nonneg _ (by omega)
  have hb1 : x % ((2 ^ j : Nat) : Int) < ((2 ^ j : Nat) : Int) := Int.emod_lt_of_pos _ (by omega)
  omega
end Go.Proofs.YthlaenafkihjiaaGreat
namespace Go.Proofs.YthlaenafkihjiaaGreat
open Go.RowKit
set_option linter.unusedVariables false
set_option linter.unusedSimpArgs false
theorem bA (x : Int) (j : Nat) (hj : j ≤ 62) (m : Int) (hm : m = 2 ^ j - 1) : QN .i64 x m = x % 2 ^ j := Oq x j hj m hm
theorem bA1 (x : Int) : QN .i64 x 1 = x % 2 := bA x 1 (by decide) 1 (by decide)
theorem bA3 (x : Int) : QN .i64 x 3 = x % 4 := bA x 2 (by decide) 3 (by decide)
theorem bA7 (x : Int) : QN .i64 x 7 = x % 8 := bA x 3 (by decide) 7 (by decide)
theorem bA15 (x : Int) : QN .i64 x 15 = x % 16 := bA x 4 (by decide) 15 (by decide)
theorem bA255 (x : Int) : QN .i64 x 255 = x % 256 := bA x 8 (by decide) 255 (by decide)
theorem MU (x : Int) : QN .i64 x 65535 = x % 65536 := bA x 16 (by decide) 65535 (by decide)
theorem G7 (x : Int) : QN .i64 x 16777215 = x % 16777216 := bA x 24 (by decide) 16777215 (by decide)
theorem KC {a b : Int} (ha : 0 ≤ a) : a.tmod b = a % b := Int.tmod_eq_emod_of_nonneg ha
theorem Kl {α : Type} {l : List α} {n : Int} (h0 : 0 ≤ n) (h1 : n < l.length) : ∃ x, ix l n x ∧ l[n.toNat]? = some x := by
  have : n.toNat < l.length := by omega
  exact ⟨l[n.toNat], ⟨h0, by simp [this]⟩, by simp [this]⟩
theorem An {n : Int} (h : 0 ≤ n ∧ n ≤ 18446744073709551615) : IntKind.u64.wrap n = n := by rw [IntKind.wrap_u64]; omega
theorem Vv (l : List Int) : (strOfNums l).size = l.length := by simp [strOfNums, ByteArray.size]
theorem shr8 (x : Int) : QE .i64 x 8 = x / 256 := by
  show x.fdiv (2 ^ 8) = x / 256
  rw [Int.fdiv_eq_ediv_of_nonneg x (by decide)]; rfl
end Go.Proofs.YthlaenafkihjiaaGreat
namespace Go.Proofs.YthlaenafkihjiaaGreat
open Go.RowKit Go.ChangeShapes Go.WideShapes
set_option linter.unusedVariables false
set_option linter.unusedSimpArgs false
def Ua : Nat → Int → List Int
  | 0, _ => []
  | k + 1, n => (n / 2 ^ (8 * k)) % 256 :: Ua k n
theorem ZL (k : Nat) (n : Int) : (Ua k n).length = k := by induction k with
  | zero => rfl
  | succ k ih => simp [Ua, ih]
def nB (n : Int) : Nat :=
  if n < 256 then 1 else if n < 65536 then 2 else if n < 16777216 then 3 else if n < 4294967296 then 4 else
  if n < 1099511627776 then 5 else if n < 281474976710656 then 6 else if n < 72057594037927936 then 7 else 8
theorem U5 (n : Int) : 1 ≤ nB n ∧ nB n ≤ 8 := by
    unfold nB; repeat' split
    all_goals omega
def XR (n : Int) : List Int := if n < 248 then [n] else (247 + (nB n : Int)) :: Ua (nB n) n
def V4 (n : Int) : List Int := if n < 0 ∨ n > 4611686018427387904 then [] else XR n
def Nu (n : Int) : Int := if n < 0 ∨ n > 4611686018427387904 then 5 else 0
theorem nB_up (n : Int) (k : Nat) (h1 : 1 ≤ k) (h8 : k < 8) (hlt : k < nB n) : 0 < n / 2 ^ (8 * k) := by
  unfold nB at hlt
  have hk : k = 1 ∨ k = 2 ∨ k = 3 ∨ k = 4 ∨ k = 5 ∨ k = 6 ∨ k = 7 := by omega
  rcases hk with rfl | rfl | rfl | rfl | rfl | rfl | rfl <;> simp only [Nat.reduceMul, Int.reducePow] <;> (repeat' split at hlt) <;> omega
theorem Rn (n : Int) (k : Nat) (h0 : 0 ≤ n) (h1 : 1 ≤ k) (h8 : k < 8) (hlt : nB n ≤ k) : n / 2 ^ (8 * k) ≤ 0 := by
  unfold nB at hlt
  have hk : k = 1 ∨ k = 2 ∨ k = 3 ∨ k = 4 ∨ k = 5 ∨ k = 6 ∨ k = 7 := by omega
  rcases hk with rfl | rfl | rfl | rfl | rfl | rfl | rfl <;> simp only [Nat.reduceMul, Int.reducePow] <;> (repeat' split at hlt) <;> omega
theorem Yu (n : Int) : (XR n).length ≤ 9 := by
  unfold XR
  have := U5 n
  split
  · simp
  · simp [ZL]; omega
theorem Lh {n : Int} {xs : List Int} {j : Nat} {t : List Int} (h : xs ++ Ua (j + 1) n = t) : (xs ++ [n / 2 ^ (8 * j) % 256]) ++ Ua j n = t := by
  rw [← h]; simp [Ua]
theorem MV {n : Int} {xs : List Int} {j : Nat} {t : List Int} (h : xs ++ Ua j n = t) : xs.length + j = t.length := by
  rw [← h]; simp [ZL]
theorem Ot (n : Int) (k : Nat) (h0 : 0 < n) (hlt : k < nB n) : 0 < n / 2 ^ (8 * k) := by
  have hr := U5 n
  by_cases h : k = 0
  · subst h; simpa using h0
  · exact nB_up n k (by omega) (by omega) hlt
theorem Ou (n : Int) (k : Nat) (h0 : 0 ≤ n) (h1 : n ≤ 4611686018427387904) (hlt : nB n ≤ k) (h8 : k ≤ 8) : n / 2 ^ (8 * k) ≤ 0 := by
  have hr := U5 n
  by_cases h : k = 8
  · subst h; simp only [Nat.reduceMul, Int.reducePow]; omega
  · exact Rn n k h0 (by omega) (by omega) hlt
theorem Ov (n : Int) (j : Nat) : n / 2 ^ (8 * j) / 256 = n / 2 ^ (8 * (j + 1)) := by
  rw [Int.ediv_ediv_of_nonneg (by exact Int.le_of_lt (Int.pow_pos (by omega))), show 8 * (j + 1) = 8 * j + 8 from by omega, Int.pow_add]
  rfl
def CL (l : List Int) : Int := l.foldl (fun x c => x * 256 + c) 0
theorem G8 (l : List Int) (c : Int) : CL (l ++ [c]) = CL l * 256 + c := by simp [CL]
theorem Pl (l : List Int) (h : ∀ n ∈ l, (Lit.int .u8 n).wf = true) : ∀ x : Int, 0 ≤ x → 0 ≤ l.foldl (fun x c => x * 256 + c) x ∧ l.foldl (fun x c => x * 256 + c) x < (x + 1) * 256 ^ l.length := by
  induction l with
  | nil => intro x hx; simp; omega
  | cons c l ih =>
    intro x hx
    have hc := bounds_u8 (h c (by simp))
    have := ih (fun n hn => h n (by simp [hn])) (x * 256 + c) (by omega)
    refine ⟨this.1, Int.lt_of_lt_of_le this.2 ?_⟩
    rw [List.length_cons, Int.pow_succ, Int.mul_comm (256 ^ l.length) 256, ← Int.mul_assoc]
    exact Int.mul_le_mul_of_nonneg_right (by omega) (Int.pow_nonneg (by omega))
theorem I2 (l : List Int) (h : ∀ n ∈ l, (Lit.int .u8 n).wf = true) : 0 ≤ CL l ∧ CL l < 256 ^ l.length := by
  have := Pl l h 0 (by omega)
  simpa [CL] using this
theorem Ow {X c : Int} (h0 : 0 ≤ X) (h1 : X < 72057594037927936) (c0 : 0 ≤ c) (c1 : c ≤ 255) : bits BinOp.or IntKind.u64 (X * 256) c = X * 256 + c :=
  bits_join .u64 64 (by decide) (fun n a b => by rw [IntKind.wrap_u64]; omega) 8 (X * 256) c (by omega) (by omega) (by omega) c0 (by omega) (by omega)
theorem Ox (l : List Int) (h : ∀ n ∈ l, (Lit.int .u8 n).wf = true) (j : Nat) (hj : j < 8) : 0 ≤ CL (l.take j) ∧ CL (l.take j) < 72057594037927936 := by
  have := I2 (l.take j) (fun n hn => h n (List.mem_of_mem_take hn))
  have hl : (l.take j).length ≤ 7 := by rw [List.length_take]; omega
  have h7 : (256 : Int) ^ (l.take j).length ≤ 72057594037927936 := by
    generalize (l.take j).length = n at hl
    match n, hl with
    | 0, _ => decide
    | 1, _ => decide
    | 2, _ => decide
    | 3, _ => decide
    | 4, _ => decide
    | 5, _ => decide
    | 6, _ => decide
    | 7, _ => decide
    | n + 8, h => omega
  exact ⟨this.1, Int.lt_of_lt_of_le this.2 h7⟩
def Uc (l : List Int) : Int × Int × Int :=
  if l = [] then (0, 0, 3)
  else if gI l 0 < 248 then (gI l 0, 1, 0)
  else if (l.length : Int) ≤ gI l 0 - 247 then (0, 0, 3)
  else if gI l 1 = 0 ∨ CL (l.tail.take (gI l 0 - 247).toNat) < 248 ∨ CL (l.tail.take (gI l 0 - 247).toNat) > 4611686018427387904 then (0, 0, 2)
  else (CL (l.tail.take (gI l 0 - 247).toNat), gI l 0 - 246, 0)
def EY (l : List Int) : Int × Int × Int := if l.length < 8 then (0, 0, 3) else (CL (l.take 8), 8, 0)
theorem Fc {l : List Int} (hw : ∀ n ∈ l, (Lit.int .u8 n).wf = true) {n k : Int} (h : Uc l = (n, k, 0)) : 0 ≤ n ∧ n ≤ 4611686018427387904 ∧ 1 ≤ k ∧ k ≤ 9 ∧ k ≤ l.length ∧ 0 < l.length := by
  have g0 := PG hw 0
  have hx := (I2 (l.tail.take (gI l 0 - 247).toNat) (fun n hn => hw n (List.mem_of_mem_tail (List.mem_of_mem_take hn)))).1
  unfold Uc at h
  by_cases h0 : l = []
  · rw [if_pos h0] at h; simp at h
  have hl : 0 < l.length := List.length_pos_iff.2 h0
  rw [if_neg h0] at h
  by_cases h1 : gI l 0 < 248
  · rw [if_pos h1] at h; simp only [Prod.mk.injEq] at h; omega
  rw [if_neg h1] at h
  by_cases h2 : (l.length : Int) ≤ gI l 0 - 247
  · rw [if_pos h2] at h; simp at h
  rw [if_neg h2] at h
  generalize CL (l.tail.take (gI l 0 - 247).toNat) = X at h hx
  by_cases h3 : gI l 1 = 0 ∨ X < 248 ∨ X > 4611686018427387904
  · rw [if_pos h3] at h; simp at h
  rw [if_neg h3] at h
  simp only [Prod.mk.injEq] at h
  omega
def EE (l : List Int) (r : Int × Int × Int) : ByteArray × Int × Int :=
  if r.2.2 ≠ 0 then (⟨#[]⟩, 0, r.2.2)
  else if r.1 > 65536 then (⟨#[]⟩, 0, 2)
  else if (l.length : Int) - r.2.1 < r.1 then (⟨#[]⟩, 0, 3)
  else (strOfNums ((l.drop r.2.1.toNat).take r.1.toNat), r.2.1 + r.1, 0)
def EZ (l : List Int) : ByteArray × Int × Int := EE l (Uc l)
def G9 (p : Int × Int) (c : Int) : Int × Int := ((p.1 + c) % 65521, (p.2 + (p.1 + c) % 65521) % 65521)
def Dq (l : List Int) : Int × Int := l.foldl G9 (1, 0)
def Hd (l : List Int) : Int := (Dq l).2 * 65536 + (Dq l).1
theorem Nv (l : List Int) (c : Int) : Dq (l ++ [c]) = G9 (Dq l) c := by simp [Dq]
theorem M7 (p : Int × Int) (c : Int) : 0 ≤ (G9 p c).1 ∧ (G9 p c).1 < 65521 ∧ 0 ≤ (G9 p c).2 ∧ (G9 p c).2 < 65521 := by
  simp only [G9]; omega
theorem F0 (l : List Int) : ∀ p : Int × Int, (0 ≤ p.1 ∧ p.1 < 65521 ∧ 0 ≤ p.2 ∧ p.2 < 65521) → 0 ≤ (l.foldl G9 p).1 ∧ (l.foldl G9 p).1 < 65521 ∧ 0 ≤ (l.foldl G9 p).2 ∧ (l.foldl G9 p).2 < 65521 := by
  induction l with
  | nil => intro p h; exact h
  | cons c l ih => intro p _; exact ih _ (M7 p c)
theorem Cw (l : List Int) : 0 ≤ (Dq l).1 ∧ (Dq l).1 < 65521 ∧ 0 ≤ (Dq l).2 ∧ (Dq l).2 < 65521 := F0 l (1, 0) (by decide)
theorem He (l : List Int) : 0 ≤ Hd l ∧ Hd l < 4294967296 := by
  have := Cw l
  unfold Hd
  omega
def Jo (tag : Int) (body : List Int) : List Int := tag :: XR body.length ++ body
def XB (tag : Int) (body : List Int) : List Int := if body.length > 1048576 then [] else Jo tag body ++ Ua 4 (Hd (Jo tag body))
def I3 (body : List Int) : Int := if body.length > 1048576 then 11 else 0
theorem wf_u8 {n : Int} (h0 : 0 ≤ n) (h1 : n ≤ 255) : (Lit.int .u8 n).wf = true := by
  simp [Lit.wf, IntKind.min, IntKind.max, IntKind.signed, IntKind.bits]; omega
theorem M8 (k : Nat) (n : Int) : ∀ c ∈ Ua k n, (Lit.int .u8 c).wf = true := by
  induction k with
  | zero => intro c hc; simp [Ua] at hc
  | succ k ih =>
    intro c hc
    rw [Ua, List.mem_cons] at hc
    rcases hc with rfl | hc
    · exact wf_u8 (by omega) (by omega)
    · exact ih c hc
theorem I4 (n : Int) (h : 0 ≤ n) : ∀ c ∈ XR n, (Lit.int .u8 c).wf = true := by
  intro c hc
  unfold XR at hc
  have := U5 n
  split at hc
  · simp at hc; subst hc; exact wf_u8 (by omega) (by omega)
  · rcases List.mem_cons.1 hc with rfl | hc
    · exact wf_u8 (by omega) (by omega)
    · exact M8 _ _ c hc
theorem Ad (tag : Int) (body : List Int) : (Jo tag body).length = 1 + (XR body.length).length + body.length := by
  unfold Jo; simp; omega
theorem beB4 {X : Int} (h0 : 0 ≤ X) (h1 : X < 4294967296) : Ua 4 X = [X / 16777216, X / 65536 % 256, X / 256 % 256, X % 256] := by
  have e3 : (2 : Int) ^ (8 * 3) = 16777216 := by decide
  have e2 : (2 : Int) ^ (8 * 2) = 65536 := by decide
  have e1 : (2 : Int) ^ (8 * 1) = 256 := by decide
  have e0 : (2 : Int) ^ (8 * 0) = 1 := by decide
  simp only [Ua, e3, e2, e1, e0, Int.ediv_one]
  rw [Int.emod_eq_of_lt (a := X / 16777216) (by omega) (by omega)]
def Li (l : List Int) (r : Int × Int × Int) : Int × List Int × Int × Int :=
  if r.2.2 ≠ 0 then (0, [], 0, r.2.2)
  else if r.1 > 1048576 then (0, [], 0, 2)
  else if (l.length : Int) < 1 + r.2.1 + r.1 + 4 then (0, [], 0, 3)
  else if CL ((l.drop (1 + r.2.1.toNat + r.1.toNat)).take 4) ≠ Hd (l.take (1 + r.2.1.toNat + r.1.toNat)) then (0, [], 0, 4)
  else (gI l 0, (l.drop (1 + r.2.1.toNat)).take r.1.toNat, 1 + r.2.1 + r.1 + 4, 0)
def PL (l : List Int) : Int × List Int × Int × Int := if l = [] then (0, [], 0, 3) else Li l (Uc l.tail)
theorem M9 {X c : Int} (h0 : 0 ≤ X) (h1 : X < 16777216) (c0 : 0 ≤ c) (c1 : c ≤ 255) : bits BinOp.or IntKind.u32 (X * 256) c = X * 256 + c :=
  bits_join .u32 32 (by decide) (fun n a b => by rw [IntKind.wrap_u32]; omega) 8 (X * 256) c (by omega) (by omega) (by omega) c0 (by omega) (by omega)
theorem Nw (l : List Int) (h : ∀ n ∈ l, (Lit.int .u8 n).wf = true) (j : Nat) (hj : j < 4) : 0 ≤ CL (l.take j) ∧ CL (l.take j) < 16777216 := by
  have := I2 (l.take j) (fun n hn => h n (List.mem_of_mem_take hn))
  have hl : (l.take j).length ≤ 3 := by rw [List.length_take]; omega
  have h7 : (256 : Int) ^ (l.take j).length ≤ 16777216 := by
    generalize (l.take j).length = n at hl
    match n, hl with
    | 0, _ => decide
    | 1, _ => decide
    | 2, _ => decide
    | 3, _ => decide
    | n + 4, h => omega
  exact ⟨this.1, Int.lt_of_lt_of_le this.2 h7⟩
end Go.Proofs.YthlaenafkihjiaaGreat
namespace Go.Proofs.YthlaenafkihjiaaGreat
open Go.RowKit Go.ChangeShapes Go.WideShapes
set_option linter.unusedVariables false
set_option linter.unusedSimpArgs false
theorem Ma (n : Int) (k : Nat) : n / 256 / 2 ^ (8 * k) = n / 2 ^ (8 * (k + 1)) := by
  rw [Int.ediv_ediv_of_nonneg (by omega), show 8 * (k + 1) = 8 + 8 * k from by omega, Int.pow_add]
  rfl
theorem Oy (k : Nat) : ∀ n : Int, Ua (k + 1) n = Ua k (n / 256) ++ [n % 256] := by
  induction k with
  | zero => intro n; simp [Ua]
  | succ k ih =>
    intro n
    rw [Ua, ih n, Ua, Ma, List.cons_append]
theorem I5 : ∀ (k : Nat) (n : Int), 0 ≤ n → n < 2 ^ (8 * k) → CL (Ua k n) = n := by
  intro k
  induction k with
  | zero => intro n h0 h1; simp at h1; have : n = 0 := by omega
            subst this; rfl
  | succ k ih =>
    intro n h0 h1
    have h2 : n / 256 < 2 ^ (8 * k) := by
      rw [show 8 * (k + 1) = 8 * k + 8 from by omega, Int.pow_add] at h1
      exact Int.ediv_lt_of_lt_mul (by omega) h1
    rw [Oy, G8, ih (n / 256) (by omega) h2]
    omega
theorem nB_hi (n : Int) (h0 : 0 ≤ n) (h1 : n ≤ 4611686018427387904) : n < 2 ^ (8 * nB n) := by
  unfold nB
  (repeat' split) <;> simp only [Nat.reduceMul, Int.reducePow] <;> omega
theorem nB_lo (n : Int) (h0 : 248 ≤ n) : 0 < n / 2 ^ (8 * (nB n - 1)) ∧ n / 2 ^ (8 * (nB n - 1)) ≤ 255 ∨ 72057594037927936 ≤ n := by
  unfold nB
  (repeat' split) <;> simp only [Nat.reduceMul, Nat.reduceSub, Int.reducePow] <;> omega
theorem Dr (c : Int) (m : List Int) : gI (c :: m) 0 = c := rfl
theorem Ga (n : Int) (h0 : 0 ≤ n) (h1 : n ≤ 4611686018427387904) (rest : List Int) : Uc (XR n ++ rest) = (n, ((XR n).length : Int), 0) := by
  by_cases hs : n < 248
  · unfold XR
    rw [if_pos hs]
    unfold Uc
    rw [if_neg (by simp), List.singleton_append, Dr, if_pos hs]
    rfl
  · have hr := U5 n
    have hhi := nB_hi n h0 h1
    have hv := I5 (nB n) n h0 hhi
    unfold XR
    rw [if_neg hs]
    unfold Uc
    rw [if_neg (by simp), List.cons_append, Dr, if_neg (by omega), if_neg (by simp [ZL]; omega)]
    have e1 : (247 + (nB n : Int) - 247).toNat = nB n := by omega
    have e2 : ((Ua (nB n) n ++ rest).take (nB n)) = Ua (nB n) n := by
      rw [List.take_append_of_le_length (by rw [ZL]; exact Nat.le_refl _), List.take_of_length_le (by rw [ZL]; exact Nat.le_refl _)]
    rw [e1, List.tail_cons, e2, hv]
    have hg : gI ((247 + (nB n : Int)) :: (Ua (nB n) n ++ rest)) 1 ≠ 0 := by
      obtain ⟨j, hj⟩ : ∃ j, nB n = j + 1 := ⟨nB n - 1, by omega⟩
      have hlo := nB_lo n (by omega)
      rw [hj] at hlo ⊢
      show n / 2 ^ (8 * j) % 256 ≠ 0
      rw [Nat.add_sub_cancel] at hlo
      rcases hlo with hlo | hlo
      · omega
      · have hj7 : j = 7 := by
          have : nB n = 8 := by
            unfold nB
            (repeat' split) <;> omega
          omega
        subst hj7
        simp only [Nat.reduceMul, Int.reducePow]
        omega
    rw [if_neg (by omega)]
    simp [ZL]
    omega
end Go.Proofs.YthlaenafkihjiaaGreat
namespace Go.Proofs.YthlaenafkihjiaaGreat
open Go.RowKit
set_option linter.unusedVariables false
set_option linter.unusedSimpArgs false
theorem Oz (a : Int) (j : Nat) (h : j ≤ 8) : QE .i64 a (IntKind.i64.wrap (8 * (j : Int))) = a / 2 ^ (8 * j) := by
  rw [Zr (by omega)]
  unfold QE
  have e : min (8 * (j : Int)).toNat IntKind.i64.bits = 8 * j := by
    have : IntKind.i64.bits = 64 := rfl
    rw [this]; omega
  rw [e, Int.fdiv_eq_ediv_of_nonneg a (Int.le_of_lt (Int.pow_pos (by decide)))]
theorem Dt (x : Int) : IntKind.u8.wrap x = x % 256 := by rw [IntKind.wrap_u8]
theorem YU (n : Int) : Kz n (V4 n, Nu n) := by
  unfold Kz YL
  simp only [jn, JL]
  by_cases hr : n < 0 ∨ n > 4611686018427387904
  · refine ⟨fun _ => by simp [V4, Nu, hr], fun h => ?_⟩
    simp at h; omega
  have hb : 0 ≤ n ∧ n ≤ 4611686018427387904 := by omega
  have eL : V4 n = XR n := by unfold V4; rw [if_neg hr]
  have eE : Nu n = 0 := by unfold Nu; rw [if_neg hr]
  rw [eL, eE]
  refine ⟨fun h => by simp at h; omega, fun _ => ⟨fun h => ?_, fun h => ?_⟩⟩
  · have h' : n < 248 := by simpa using h
    rw [Dt, Int.emod_eq_of_lt hb.1 (by omega)]; unfold XR; rw [if_pos h']
  have h' : ¬ n < 248 := by simpa using h
  have hu : XR n = (247 + (nB n : Int)) :: Ua (nB n) n := by unfold XR; rw [if_neg h']
  rw [hu]
  have hnb := U5 n
  refine Kc (I := fun k s => ∃ j : Nat, s = (j : Int) ∧ 1 ≤ j ∧ j ≤ nB n ∧ k = 8 - j) ?_ (k := 7) ⟨1, rfl, by omega, by omega, rfl⟩
  rintro k s ⟨j, rfl, hj1, hj2, hk⟩ X hX
  rw [Oz n j (by omega)]
  refine ⟨fun _ => by rw [Zr (by omega)]; omega, fun h => ?_, fun h => ?_⟩
  · have h8 : j < 8 ∧ 0 < n / 2 ^ (8 * j) := by
      rw [Jh] at h; simp at h; exact ⟨by omega, h.2⟩
    rw [Zr (by omega)]
    refine hX (8 - (j + 1)) _ (by omega) ⟨j + 1, by simp, by omega, ?_, rfl⟩
    rcases Nat.lt_or_ge j (nB n) with hl | hl
    · omega
    · have := Ou n j hb.1 hb.2 hl (by omega); omega
  · have hjn : j = nB n := by
      rcases Nat.lt_or_ge j (nB n) with hl | hl
      · have := Ot n j (by omega) hl
        rw [Jh] at h; simp at h; omega
      · omega
    subst hjn
    rw [Zr (n := 247 + (nB n : Int)) (by omega), Dt, Int.emod_eq_of_lt (by omega) (by omega), Zr (n := (nB n : Int) - 1) (by omega)]
    refine Kc (I := fun k s => ∃ m : Nat, s.2 = (m : Int) - 1 ∧ m ≤ nB n ∧ k = m ∧ s.1 ++ Ua m n = (247 + (nB n : Int)) :: Ua (nB n) n) ?_ (k := nB n) ⟨nB n, rfl, by omega, rfl, rfl⟩
    rintro k ⟨l, i⟩ ⟨m, hm, hm1, hk, hl⟩ X hX
    simp only at hm hl ⊢
    subst hm
    have hlen := MV hl
    simp [ZL] at hlen
    refine ⟨fun h => ?_, fun h => ?_⟩
    · have hm0 : 1 ≤ m := by simp at h; omega
      have em : (m : Int) - 1 = ((m - 1 : Nat) : Int) := by omega
      rw [em, Oz n (m - 1) (by omega), Dt]
      refine ⟨by rw [Zr (by omega)]; omega, by simp; omega, ?_⟩
      rw [Zr (n := ((m - 1 : Nat) : Int) - 1) (by omega)]
      refine hX (m - 1) _ (by omega) ⟨m - 1, rfl, by omega, rfl, ?_⟩
      obtain ⟨j, rfl⟩ : ∃ j, m = j + 1 := ⟨m - 1, by omega⟩
      simpa using Lh hl
    · have hm0 : m = 0 := by simp at h; omega
      subst hm0
      simpa [Ua] using hl.symm
theorem Lj (n : Int) (hb : 0 ≤ n ∧ n ≤ 4611686018427387904) : Z8 n (XR n) := by
  unfold Z8 Xo
  simp only [jn, shr8, Dt]
  refine ⟨fun h => ?_, fun h => ?_⟩
  · have h' : n < 248 := by simpa using h
    rw [Int.emod_eq_of_lt hb.1 (by omega)]; unfold XR; rw [if_pos h']
  have h' : ¬ n < 248 := by simpa using h
  have hu : XR n = (247 + (nB n : Int)) :: Ua (nB n) n := by unfold XR; rw [if_neg h']
  rw [hu]
  have hnb := U5 n
  refine Kc (I := fun k s => ∃ j : Nat, s.1 = n / 2 ^ (8 * j) ∧ s.2 = Ua j n ∧ j ≤ nB n ∧ k = 8 - j) ?_ (k := 8) ⟨0, by simp, rfl, by omega, rfl⟩
  rintro k ⟨x, l⟩ ⟨j, hx, hl, hj, hk⟩ X hX
  simp only at hx hl ⊢
  subst hx; subst hl
  refine ⟨fun h => ?_, fun h => ?_⟩
  · have h0 : 0 < n / 2 ^ (8 * j) := by simpa using h
    have hlt : j < nB n := by
      rcases Nat.lt_or_ge j (nB n) with hl | hl
      · exact hl
      · have := Ou n j hb.1 hb.2 hl (by omega); omega
    refine ⟨by simp [ZL]; omega, hX (8 - (j + 1)) _ (by omega) ⟨j + 1, Ov n j, rfl, by omega, rfl⟩⟩
  · have h0 : ¬ 0 < n / 2 ^ (8 * j) := by simpa using h
    have hjn : j = nB n := by
      rcases Nat.lt_or_ge j (nB n) with hl | hl
      · exact absurd (Ot n j (by omega) hl) h0
      · omega
    subst hjn
    rw [ZL, Zr (by omega), Int.emod_eq_of_lt (by omega) (by omega)]
    exact ⟨by simp [ZL]; omega, rfl⟩
theorem Mb {x : Int} (h : 0 ≤ x ∧ x ≤ 4294967295) : IntKind.u32.wrap x = x := by rw [IntKind.wrap_u32]; omega
theorem Pm {l : List Int} (hl : l.length ≤ 4611686018427387904) (hw : ∀ c ∈ l, 0 ≤ c ∧ c ≤ 255) {J : Int × Int → Prop} (hJ : J (Dq l)) :
    lp (fun (X2 : Int × Int × Int → Prop) (s2 : Int × Int × Int) => (((decide ((s2.2.2) < (((l).length : Int)))) = true → ∃ (v5 : Int), ix (l) (s2.2.2) v5 ∧ X2 (((IntKind.u32.wrap ((s2.1) + (IntKind.u32.wrap (v5)))).tmod (65521)), ((IntKind.u32.wrap ((s2.2.1) + ((IntKind.u32.wrap ((s2.1) + (IntKind.u32.wrap (v5)))).tmod (65521)))).tmod (65521)), (IntKind.i64.wrap ((s2.2.2) + (1))))) ∧ ((decide ((s2.2.2) < (((l).length : Int)))) = false → J ((s2.1), (s2.2.1))))) ((1), (0), (0)) := by
  refine Kc (I := fun k s => ∃ j : Nat, s.2.2 = (j : Int) ∧ j ≤ l.length ∧ k = l.length - j ∧ (s.1, s.2.1) = Dq (l.take j)) ?_ (k := l.length) ⟨0, rfl, by omega, by omega, rfl⟩
  rintro k ⟨a, b, i⟩ ⟨j, hj, hj1, hk, hp⟩ X hX
  simp only at hj hp ⊢
  subst hj
  refine ⟨fun h => ?_, fun h => ?_⟩
  · have hj2 : j < l.length := by simp at h; omega
    obtain ⟨x, hx, hg⟩ := Kl (l := l) (n := (j : Int)) (by omega) (by omega)
    have hxw := hw x (List.mem_of_getElem? hg)
    have hr := Cw (l.take j)
    rw [← hp] at hr
    simp only at hr
    refine ⟨x, hx, ?_⟩
    have e : l.take (j + 1) = l.take j ++ [x] := by
      rw [List.take_add_one]; simp at hg; simp [hg]
    have t1 : (a + x).tmod 65521 = (a + x) % 65521 := KC (by omega)
    have t2 : (b + (a + x) % 65521).tmod 65521 = (b + (a + x) % 65521) % 65521 := KC (by omega)
    rw [Mb (x := x) (by omega), Mb (x := a + x) (by omega), t1, Mb (by omega), t2, Zr (by omega)]
    refine hX (l.length - (j + 1)) _ (by omega) ⟨j + 1, by simp, by omega, rfl, ?_⟩
    rw [e, Nv, ← hp]; rfl
  · have hj2 : j = l.length := by simp at h; omega
    subst hj2
    rw [List.take_length] at hp
    rw [hp]; exact hJ
theorem Ao (l : List Int) (hl : l.length ≤ 4611686018427387904) (hw : ∀ c ∈ l, 0 ≤ c ∧ c ≤ 255) : JV l (Hd l) := by
  unfold JV Wx
  simp only [jn]
  refine Pm (J := fun p => Hd l = IntKind.u32.wrap (Va .u32 p.2 16 + p.1)) hl hw ?_
  have hr := Cw l
  show Hd l = IntKind.u32.wrap (IntKind.u32.wrap ((Dq l).2 * 65536) + (Dq l).1)
  rw [Mb (x := (Dq l).2 * 65536) (by omega), Mb (by omega)]; rfl
theorem Gb (a : Int) (j : Nat) (h : j ≤ 32) : QE .u32 a (j : Int) = a / 2 ^ j := by
  unfold QE
  have e : min ((j : Int)).toNat IntKind.u32.bits = j := by
    have : IntKind.u32.bits = 32 := rfl
    rw [this]; omega
  rw [e, Int.fdiv_eq_ediv_of_nonneg a (Int.le_of_lt (Int.pow_pos (by decide)))]
theorem four (X : Int) (h : 0 ≤ X ∧ X < 4294967296) : [IntKind.u8.wrap (QE .u32 X 24), IntKind.u8.wrap (QE .u32 X 16), IntKind.u8.wrap (QE .u32 X 8), IntKind.u8.wrap X] = Ua 4 X := by
  have e1 : QE .u32 X 24 = X / 16777216 := Gb X 24 (by decide)
  have e2 : QE .u32 X 16 = X / 65536 := Gb X 16 (by decide)
  have e3 : QE .u32 X 8 = X / 256 := Gb X 8 (by decide)
  rw [beB4 h.1 h.2, e1, e2, e3, Dt, Dt, Dt, Dt, Int.emod_eq_of_lt (a := X / 16777216) (by omega) (by omega)]
theorem Hf {t : Int} {l : List Int} (ht : 0 ≤ t ∧ t ≤ 255) (hw : ∀ c ∈ l, 0 ≤ c ∧ c ≤ 255) : ∀ c ∈ Jo t l, 0 ≤ c ∧ c ≤ 255 := by
  intro c hc
  unfold Jo at hc
  simp only [List.cons_append, List.mem_cons, List.mem_append] at hc
  rcases hc with rfl | h | h
  · exact ht
  · exact bounds_u8 (I4 _ (by omega) c h)
  · exact hw c h
theorem I6 (t : Int) (l : List Int) (ht : 0 ≤ t ∧ t ≤ 255) (hw : ∀ c ∈ l, 0 ≤ c ∧ c ≤ 255) : YP t l (XB t l, I3 l) := by
  unfold YP Ab
  by_cases h : l.length > 1048576
  · refine ⟨fun _ => by simp [XB, I3, h], fun h2 => by simp at h2; omega⟩
  · refine ⟨fun h2 => by simp at h2; omega, fun _ => ?_⟩
    have hL := Yu (l.length : Int)
    have e : V4 (l.length : Int) = XR l.length := by unfold V4; rw [if_neg (by omega)]
    have hh : (([t] ++ XR (l.length : Int)) ++ l) = Jo t l := by simp [Jo]
    have hl := Ad t l
    refine ⟨_, YU _, ?_⟩
    rw [e, hh]
    refine ⟨by simp; omega, by simp; omega, _, Ao _ (by omega) (Hf ht hw), ?_⟩
    rw [four _ (He _)]
    exact ⟨by simp [ZL]; omega, by simp [XB, I3, h]⟩
end Go.Proofs.YthlaenafkihjiaaGreat
namespace Go.Proofs.YthlaenafkihjiaaGreat
open Go.RowKit
set_option linter.unusedVariables false
set_option linter.unusedSimpArgs false
theorem OA (a : Int) (j : Nat) (h : j ≤ 64) : QE .u64 a (j : Int) = a / 2 ^ j := by
  unfold QE
  have e : min ((j : Int)).toNat IntKind.u64.bits = j := by
    have : IntKind.u64.bits = 64 := rfl
    rw [this]; omega
  rw [e, Int.fdiv_eq_ediv_of_nonneg a (Int.le_of_lt (Int.pow_pos (by decide)))]
theorem Du (a : Int) : V1 a (Ua 8 a) := by
  unfold V1 YO
  simp only [jn]
  refine Kc (I := fun k s => ∃ m : Nat, s.2 = 8 * (m : Int) - 8 ∧ m ≤ 8 ∧ k = m ∧ s.1 ++ Ua m a = Ua 8 a) ?_ (k := 8) ⟨8, by decide, by omega, rfl, rfl⟩
  rintro k ⟨l, i⟩ ⟨m, hm, hm1, hk, hl⟩ X hX
  simp only at hm hl ⊢
  subst hm
  have hlen := MV hl
  simp [ZL] at hlen
  refine ⟨fun h => ?_, fun h => ?_⟩
  · have hm0 : 1 ≤ m := by simp at h; omega
    obtain ⟨j, rfl⟩ : ∃ j, m = j + 1 := ⟨m - 1, by omega⟩
    have em : 8 * ((j + 1 : Nat) : Int) - 8 = ((8 * j : Nat) : Int) := by omega
    rw [em, OA a (8 * j) (by omega), Dt]
    refine ⟨by omega, by simp; omega, ?_⟩
    rw [Zr (by omega)]
    exact hX j _ (by omega) ⟨j, by simp only; omega, by omega, rfl, by simpa using Lh hl⟩
  · have hm0 : m = 0 := by simp at h; omega
    subst hm0
    simpa [Ua] using hl.symm
def Bi (s : ByteArray) : List Int := if s.size > 65536 then [] else XR s.size ++ sI s
def txE (s : ByteArray) : Int := if s.size > 65536 then 11 else 0
theorem OB {n : Nat} (h : n ≤ 4611686018427387904) : V4 (n : Int) = XR n ∧ Nu (n : Int) = 0 := by
  unfold V4 Nu; rw [if_neg (by omega), if_neg (by omega)]; exact ⟨rfl, rfl⟩
theorem Dv (s : ByteArray) : V0 s (Bi s, txE s) := by
  unfold V0 YN
  by_cases h : s.size > 65536
  · refine ⟨fun _ => by simp [Bi, txE, h], fun h2 => by simp at h2; omega⟩
  · refine ⟨fun h2 => by simp at h2; omega, fun _ => ⟨_, YU _, ?_⟩⟩
    have hL := Yu (s.size : Int)
    have hs := VV s
    rw [(OB (n := s.size) (by omega)).1]
    exact ⟨by simp only; omega, by simp [Bi, txE, h]⟩
theorem ZD (n : Int) : (V4 n).length ≤ 9 := by
  unfold V4; split
  · simp
  · exact Yu n
theorem U6 (s : ByteArray) : (Bi s).length ≤ 65545 := by
  unfold Bi; split
  · simp
  · have hL := Yu (s.size : Int)
    have hs := VV s
    simp; omega
theorem KY (b : List Int) (l : List Int) (hb : b.length ≤ 1000000000) (hl : l.length ≤ 100000) : Zd ⟨b⟩ l ⟨b ++ l.flatMap V4⟩ := by
  unfold Zd JG
  refine Kc (I := fun k s => ∃ j : Nat, s.1 = (j : Int) ∧ j ≤ l.length ∧ k = l.length - j ∧ s.2 = b ++ (l.take j).flatMap V4 ∧ s.2.length ≤ b.length + 9 * j) ?_ (k := l.length) ⟨0, rfl, by omega, by omega, by simp, by simp⟩
  rintro k ⟨i, c⟩ ⟨j, hj, hj1, hk, hc, hlen⟩ X hX
  simp only at hj hc hlen ⊢
  subst hj
  refine ⟨fun h => ?_, fun h => ?_⟩
  · have hj2 : j < l.length := by simp at h; omega
    obtain ⟨x, hx, hg⟩ := Kl (l := l) (n := (j : Int)) (by omega) (by omega)
    have hL := ZD x
    refine ⟨x, hx, _, YU x, by simp only; omega, ?_⟩
    rw [Zr (by omega)]
    refine hX (l.length - (j + 1)) _ (by omega) ⟨j + 1, by simp, by omega, rfl, ?_, by simp; omega⟩
    have e : l.take (j + 1) = l.take j ++ [x] := by rw [List.take_add_one]; simp at hg; simp [hg]
    rw [e, hc]; simp
  · have hj2 : j = l.length := by simp at h; omega
    subst hj2
    rw [hc, List.take_length]
theorem Vw (b : List Int) (l : List ByteArray) (hb : b.length ≤ 100000000000) (hl : l.length ≤ 100000) : Zk ⟨b⟩ l ⟨b ++ l.flatMap Bi⟩ := by
  unfold Zk V7
  refine Kc (I := fun k s => ∃ j : Nat, s.1 = (j : Int) ∧ j ≤ l.length ∧ k = l.length - j ∧ s.2 = b ++ (l.take j).flatMap Bi ∧ s.2.length ≤ b.length + 65545 * j) ?_ (k := l.length) ⟨0, rfl, by omega, by omega, by simp, by simp⟩
  rintro k ⟨i, c⟩ ⟨j, hj, hj1, hk, hc, hlen⟩ X hX
  simp only at hj hc hlen ⊢
  subst hj
  refine ⟨fun h => ?_, fun h => ?_⟩
  · have hj2 : j < l.length := by simp at h; omega
    obtain ⟨x, hx, hg⟩ := Kl (l := l) (n := (j : Int)) (by omega) (by omega)
    have hL := U6 x
    refine ⟨x, hx, _, Dv x, by simp only; omega, ?_⟩
    rw [Zr (by omega)]
    refine hX (l.length - (j + 1)) _ (by omega) ⟨j + 1, by simp, by omega, rfl, ?_, by simp; omega⟩
    have e : l.take (j + 1) = l.take j ++ [x] := by rw [List.take_add_one]; simp at hg; simp [hg]
    rw [e, hc]; simp
  · have hj2 : j = l.length := by simp at h; omega
    subst hj2
    rw [hc, List.take_length]
end Go.Proofs.YthlaenafkihjiaaGreat
namespace Go.Proofs.YthlaenafkihjiaaGreat
open Go.RowKit Go.ChangeShapes Go.WideShapes
set_option linter.unusedVariables false
set_option linter.unusedSimpArgs false
theorem OC (hd : Int) (bd s rest : List Int) (hb : bd.length ≤ 1048576) (hs : s.length = 4) :
    PL (hd :: (XR bd.length ++ (bd ++ (s ++ rest)))) =
      if CL s ≠ Hd (Jo hd bd) then (0, [], 0, 4) else (hd, bd, ((Jo hd bd).length : Int) + 4, 0) := by
  unfold PL
  rw [if_neg (by simp), List.tail_cons, Ga _ (by omega) (by omega)]
  have e0 : (hd :: (XR bd.length ++ (bd ++ (s ++ rest)))) = Jo hd bd ++ (s ++ rest) := by simp [Jo]
  have hl := Ad hd bd
  have hT : (Jo hd bd ++ (s ++ rest)).take (1 + (XR bd.length).length + bd.length) = Jo hd bd := by
    rw [← hl, List.take_left]
  have hD : (Jo hd bd ++ (s ++ rest)).drop (1 + (XR bd.length).length + bd.length) = s ++ rest := by
    rw [← hl, List.drop_left]
  have hS : (s ++ rest).take 4 = s := by rw [← hs, List.take_left]
  have hB : ((Jo hd bd ++ (s ++ rest)).drop (1 + (XR bd.length).length)).take bd.length = bd := by
    have : Jo hd bd ++ (s ++ rest) = (hd :: XR bd.length) ++ (bd ++ (s ++ rest)) := by simp [Jo]
    rw [this, show 1 + (XR bd.length).length = (hd :: XR bd.length).length from by simp; omega, List.drop_left, List.take_left]
  have hG : gI (Jo hd bd ++ (s ++ rest)) 0 = hd := rfl
  rw [e0]
  unfold Li
  simp only [Int.toNat_natCast]
  rw [if_neg (by simp), if_neg (by omega), if_neg (by simp only [List.length_append, hl, hs]; omega), hT, hD, hS, hB, hG, hl]
  congr 3
theorem Nx (hd : Int) (bd rest : List Int) (hb : bd.length ≤ 1048576) : PL (XB hd bd ++ rest) = (hd, bd, ((XB hd bd).length : Int), 0) := by
  have hX := He (Jo hd bd)
  have hf : XB hd bd = Jo hd bd ++ Ua 4 (Hd (Jo hd bd)) := by unfold XB; rw [if_neg (by omega)]
  have hx : CL (Ua 4 (Hd (Jo hd bd))) = Hd (Jo hd bd) := I5 4 _ hX.1 (by simpa using hX.2)
  have := OC hd bd (Ua 4 (Hd (Jo hd bd))) rest hb (ZL 4 _)
  rw [if_neg (by rw [hx]; simp)] at this
  rw [hf, List.length_append, ZL]
  have e : Jo hd bd ++ Ua 4 (Hd (Jo hd bd)) ++ rest = hd :: (XR bd.length ++ (bd ++ (Ua 4 (Hd (Jo hd bd)) ++ rest))) := by simp [Jo]
  rw [e, this]
  simp
end Go.Proofs.YthlaenafkihjiaaGreat
namespace Go.Proofs.YthlaenafkihjiaaGreat
open Go.RowKit
set_option linter.unusedVariables false
set_option linter.unusedSimpArgs false
def CM (l : List Int) : Prop := l.length ≤ 140737488355328 ∧ ∀ c ∈ l, (Lit.int .u8 c).wf = true
theorem CM.drop {l : List Int} (h : CM l) (n : Nat) : CM (l.drop n) := ⟨by have := h.1; rw [List.length_drop]; omega, fun c hc => h.2 c (List.mem_of_mem_drop hc)⟩
theorem CM.take {l : List Int} (h : CM l) (n : Nat) : CM (l.take n) := ⟨by have := h.1; rw [List.length_take]; omega, fun c hc => h.2 c (List.mem_of_mem_take hc)⟩
theorem CM.b {l : List Int} (h : CM l) : ∀ c ∈ l, 0 ≤ c ∧ c ≤ 255 := fun c hc => bounds_u8 (h.2 c hc)
theorem CM.of {l : List Int} (hl : l.length ≤ 140737488355328) (h : ∀ c ∈ l, 0 ≤ c ∧ c ≤ 255) : CM l := ⟨hl, fun c hc => wf_u8 (h c hc).1 (h c hc).2⟩
theorem OD {l : List Int} {j : Nat} (h : j < l.length) : ix l (j : Int) (gI l j) := ⟨by omega, by simp [gI, h]⟩
theorem ishl8 (X : Int) : Va .u64 X 8 = IntKind.u64.wrap (X * 256) := rfl
theorem Ro (X : Int) : Va .u32 X 8 = IntKind.u32.wrap (X * 256) := rfl
theorem Rp {X c : Int} (h0 : 0 ≤ X) (h1 : X < 72057594037927936) (c0 : 0 ≤ c) (c1 : c ≤ 255) : Nn .u64 (Va .u64 X 8) (IntKind.u64.wrap c) = X * 256 + c := by
  rw [ishl8, An (by omega), An (by omega)]
  exact Ow h0 h1 c0 c1
theorem Pn {X c : Int} (h0 : 0 ≤ X) (h1 : X < 16777216) (c0 : 0 ≤ c) (c1 : c ≤ 255) : Nn .u32 (Va .u32 X 8) (IntKind.u32.wrap c) = X * 256 + c := by
  rw [Ro, Mb (by omega), Mb (by omega)]
  exact M9 h0 h1 c0 c1
theorem MW {q : List Int} (h8 : q.length ≤ 8) (hw : ∀ c ∈ q, (Lit.int .u8 c).wf = true) {J : Int × Int → Prop} (hJ : ∀ i, J (CL q, i)) :
    lp (fun (X : Int × Int → Prop) (s : Int × Int) => (((decide ((s.2) < ((q.length : Int)))) = true → ∃ (v : Int), ix q (s.2) v ∧ X ((Nn .u64 (Va .u64 (s.1) (8)) (IntKind.u64.wrap (v))), (IntKind.i64.wrap ((s.2) + (1))))) ∧ ((decide ((s.2) < ((q.length : Int)))) = false → J s))) ((0), (0)) := by
  refine Kc (I := fun k s => ∃ j : Nat, s.2 = (j : Int) ∧ j ≤ q.length ∧ k = q.length - j ∧ s.1 = CL (q.take j)) ?_ (k := q.length) ⟨0, rfl, by omega, by omega, rfl⟩
  rintro k ⟨x, i⟩ ⟨j, hj, hj1, hk, hx⟩ X hX
  simp only at hj hx ⊢
  subst hj; subst hx
  refine ⟨fun h => ?_, fun h => ?_⟩
  · have hj2 : j < q.length := by simp at h; omega
    obtain ⟨c, hc, hg⟩ := Kl (l := q) (n := (j : Int)) (by omega) (by omega)
    have hcw := bounds_u8 (hw c (List.mem_of_getElem? hg))
    have hb := Ox q hw j (by omega)
    refine ⟨c, hc, ?_⟩
    rw [Zr (by omega), Rp hb.1 hb.2 hcw.1 hcw.2]
    refine hX (q.length - (j+1)) _ (by omega) ⟨j+1, by simp, by omega, rfl, ?_⟩
    have e : q.take (j+1) = q.take j ++ [c] := by rw [List.take_add_one]; simp at hg; simp [hg]
    simp only
    rw [e, G8]
  · have hj2 : j = q.length := by simp at h; omega
    rw [List.take_of_length_le (by omega)]
    exact hJ _
theorem OE {q : List Int} (h8 : q.length ≤ 4) (hw : ∀ c ∈ q, (Lit.int .u8 c).wf = true) {J : Int × Int → Prop} (hJ : ∀ i, J (CL q, i)) :
    lp (fun (X : Int × Int → Prop) (s : Int × Int) => (((decide ((s.2) < ((q.length : Int)))) = true → ∃ (v : Int), ix q (s.2) v ∧ X ((Nn .u32 (Va .u32 (s.1) (8)) (IntKind.u32.wrap (v))), (IntKind.i64.wrap ((s.2) + (1))))) ∧ ((decide ((s.2) < ((q.length : Int)))) = false → J s))) ((0), (0)) := by
  refine Kc (I := fun k s => ∃ j : Nat, s.2 = (j : Int) ∧ j ≤ q.length ∧ k = q.length - j ∧ s.1 = CL (q.take j)) ?_ (k := q.length) ⟨0, rfl, by omega, by omega, rfl⟩
  rintro k ⟨x, i⟩ ⟨j, hj, hj1, hk, hx⟩ X hX
  simp only at hj hx ⊢
  subst hj; subst hx
  refine ⟨fun h => ?_, fun h => ?_⟩
  · have hj2 : j < q.length := by simp at h; omega
    obtain ⟨c, hc, hg⟩ := Kl (l := q) (n := (j : Int)) (by omega) (by omega)
    have hcw := bounds_u8 (hw c (List.mem_of_getElem? hg))
    have hb := Nw q hw j (by omega)
    refine ⟨c, hc, ?_⟩
    rw [Zr (by omega), Pn hb.1 hb.2 hcw.1 hcw.2]
    refine hX (q.length - (j+1)) _ (by omega) ⟨j+1, by simp, by omega, rfl, ?_⟩
    have e : q.take (j+1) = q.take j ++ [c] := by rw [List.take_add_one]; simp at hg; simp [hg]
    simp only
    rw [e, G8]
  · have hj2 : j = q.length := by simp at h; omega
    rw [List.take_of_length_le (by omega)]
    exact hJ _
theorem YV (l : List Int) (B : CM l) : KA l (Uc l) := by
  obtain ⟨hl, hw⟩ := B
  unfold KA YQ
  simp only [jn, JL]
  refine ⟨fun h => ?_, fun h => ?_⟩
  · have : l = [] := by simpa using h
    subst this; rfl
  have h0 : l ≠ [] := by intro e; subst e; simp at h
  have hp : 0 < l.length := List.length_pos_iff.2 h0
  have g0 := PG hw 0
  have i0 : ix l 0 (gI l 0) := OD (j := 0) hp
  refine ⟨_, i0, fun h => ?_, fun h => ?_⟩
  · have h1 : gI l 0 < 248 := by simpa using h
    refine ⟨_, i0, ?_⟩
    unfold Uc; rw [if_neg h0, if_pos h1, Zr (by omega)]
  have h1 : ¬ gI l 0 < 248 := by simpa using h
  refine ⟨_, i0, ?_⟩
  have e1 : IntKind.i64.wrap (1 + IntKind.i64.wrap (IntKind.i64.wrap (IntKind.i64.wrap (gI l 0) - 248) + 1)) = gI l 0 - 246 := by
    rw [Zr (n := gI l 0) (by omega), Zr (n := gI l 0 - 248) (by omega), Zr (n := gI l 0 - 248 + 1) (by omega), Zr (by omega)]; omega
  rw [e1]
  refine ⟨fun h => ?_, fun h => ?_⟩
  · have h2 : (l.length : Int) ≤ gI l 0 - 247 := by simp at h; omega
    unfold Uc; rw [if_neg h0, if_neg h1, if_pos h2]
  have h2 : ¬ (l.length : Int) ≤ gI l 0 - 247 := by simp at h; omega
  refine ⟨by omega, ?_⟩
  obtain ⟨m, hm⟩ : ∃ m : Nat, gI l 0 - 247 = (m : Int) := ⟨(gI l 0 - 247).toNat, by omega⟩
  have e2 : List.drop (Int.toNat 1) (List.take (Int.toNat (gI l 0 - 246)) l) = l.tail.take m := by
    have e3 : (gI l 0 - 246).toNat = m + 1 := by omega
    rw [e3]
    cases l with
    | nil => exact absurd rfl h0
    | cons c r => rfl
  rw [e2]
  have lm : (l.tail.take m).length = m := by simp; omega
  have wm : ∀ c ∈ l.tail.take m, (Lit.int .u8 c).wf = true := fun c hc => hw c (List.mem_of_mem_tail (List.mem_of_mem_take hc))
  have hd : Uc l = if gI l 1 = 0 ∨ CL (l.tail.take m) < 248 ∨ CL (l.tail.take m) > 4611686018427387904 then (0,0,2) else (CL (l.tail.take m), gI l 0 - 246, 0) := by
    unfold Uc; rw [if_neg h0, if_neg h1, if_neg h2, hm]; rfl
  have hx0 := (I2 _ wm).1
  refine MW ?_ wm (fun i => ?_)
  · omega
  simp only
  refine ⟨gI l 1, OD (j := 1) (by omega), fun h => ?_, fun h => ?_⟩
  · rw [hd, if_pos (by simpa [or_assoc] using h)]
  · have h3 : ¬ (gI l 1 = 0 ∨ CL (l.tail.take m) < 248 ∨ CL (l.tail.take m) > 4611686018427387904) := by
      intro c; simp only [Bool.or_eq_false_iff, decide_eq_false_iff_not, beq_eq_false_iff_ne] at h; omega
    rw [hd, if_neg h3, Zr (by omega)]
theorem Dw (l : List Int) (B : CM l) : V3 l (EY l) := by
  obtain ⟨hl, hw⟩ := B
  unfold V3 YT
  simp only [jn]
  refine ⟨fun h => ?_, fun h => ?_⟩
  · have h' : l.length < 8 := by simp at h; omega
    unfold EY; rw [if_pos h']
  have h' : ¬ l.length < 8 := by simp at h; omega
  refine ⟨by omega, ?_⟩
  have e : List.take (Int.toNat 8) l = l.take 8 := rfl
  rw [e]
  refine MW ?_ (fun c hc => hw c (List.mem_of_mem_take hc)) (fun i => ?_)
  · simp; omega
  unfold EY; rw [if_neg h']
theorem Dx (l : List Int) (B : CM l) : V2 l (EZ l) := by
  obtain ⟨hl, hw⟩ := B
  unfold V2 YS
  obtain ⟨n, k, e, hd⟩ : ∃ n k e, Uc l = (n, k, e) := ⟨_, _, _, rfl⟩
  have ht : EZ l = EE l (n, k, e) := by unfold EZ; rw [hd]
  refine ⟨Uc l, YV l ⟨hl, hw⟩, ?_⟩
  rw [hd, ht]
  simp only
  refine ⟨fun h => ?_, fun h => ?_⟩
  · have he : e ≠ 0 := by simpa using h
    unfold EE; rw [if_pos he]
  have he : e = 0 := by simpa using h
  subst he
  have hk := Fc hw hd
  refine ⟨fun h => ?_, fun h => ?_⟩
  · have h1 : n > 65536 := by simpa using h
    unfold EE; rw [if_neg (by simp), if_pos h1]
  have h1 : ¬ n > 65536 := by simpa using h
  have e1 : IntKind.i64.wrap ((l.length : Int) - k) = (l.length : Int) - k := Zr (by omega)
  have e2 : IntKind.i64.wrap (k + n) = k + n := Zr (by omega)
  rw [e1, e2]
  refine ⟨fun h => ?_, fun h => ?_⟩
  · have h2 : (l.length : Int) - k < n := by simpa using h
    unfold EE; rw [if_neg (by simp), if_neg h1, if_pos h2]
  have h2 : ¬ (l.length : Int) - k < n := by simpa using h
  refine ⟨by omega, ?_⟩
  unfold EE; rw [if_neg (by simp), if_neg h1, if_neg h2]
  have e3 : (k + n).toNat = k.toNat + n.toNat := by omega
  have e4 : List.drop k.toNat (List.take (k.toNat + n.toNat) l) = List.take n.toNat (List.drop k.toNat l) := by
    rw [List.drop_take]; congr 1; omega
  rw [e3, e4]
theorem Gc (l : List Int) (B : CM l) : XA l (PL l) := by
  have B' := B
  obtain ⟨hl, hw⟩ := B
  unfold XA U2
  simp only [jn]
  refine ⟨fun h => ?_, fun h => ?_⟩
  · have : l = [] := by simpa using h
    subst this; rfl
  have h0 : l ≠ [] := by intro e; subst e; simp at h
  have hp : 0 < l.length := List.length_pos_iff.2 h0
  have et : List.drop (Int.toNat 1) l = l.tail := by cases l <;> rfl
  rw [et]
  have Bt : CM l.tail := by rw [← et]; exact B'.drop _
  obtain ⟨n, k, e, hd⟩ : ∃ n k e, Uc l.tail = (n, k, e) := ⟨_, _, _, rfl⟩
  have hu : PL l = Li l (n, k, e) := by unfold PL; rw [if_neg h0, hd]
  refine ⟨by omega, Uc l.tail, YV _ Bt, ?_⟩
  rw [hd, hu]
  simp only
  refine ⟨fun h => ?_, fun h => ?_⟩
  · have he : e ≠ 0 := by simpa using h
    unfold Li; rw [if_pos he]
  have he : e = 0 := by simpa using h
  subst he
  have hk := Fc Bt.2 hd
  have lt : l.tail.length = l.length - 1 := by simp
  refine ⟨fun h => ?_, fun h => ?_⟩
  · have h1 : n > 1048576 := by simpa using h
    unfold Li; rw [if_neg (by simp), if_pos h1]
  have h1 : ¬ n > 1048576 := by simpa using h
  have e1 : IntKind.i64.wrap (1 + k) = 1 + k := Zr (by omega)
  have e2 : IntKind.i64.wrap (1 + k + n) = 1 + k + n := Zr (by omega)
  have e3 : IntKind.i64.wrap (1 + k + n + 4) = 1 + k + n + 4 := Zr (by omega)
  rw [e1, e2, e3]
  refine ⟨fun h => ?_, fun h => ?_⟩
  · have h2 : (l.length : Int) < 1 + k + n + 4 := by simpa using h
    unfold Li; rw [if_neg (by simp), if_neg h1, if_pos h2]
  have h2 : ¬ (l.length : Int) < 1 + k + n + 4 := by simpa using h
  refine ⟨by omega, ?_⟩
  obtain ⟨K, hK⟩ : ∃ K : Nat, k = (K : Int) := ⟨k.toNat, by omega⟩
  obtain ⟨M, hM⟩ : ∃ M : Nat, n = (M : Int) := ⟨n.toNat, by omega⟩
  subst hK; subst hM
  have a1 : Int.toNat (1 + (K : Int) + (M : Int)) = 1 + K + M := by omega
  have a2 : Int.toNat (1 + (K : Int) + (M : Int) + 4) = 1 + K + M + 4 := by omega
  have a3 : Int.toNat (1 + (K : Int)) = 1 + K := by omega
  rw [a1, a2, a3]
  have d1 : List.drop (1 + K + M) (List.take (1 + K + M + 4) l) = List.take 4 (List.drop (1 + K + M) l) := by
    rw [List.drop_take]; congr 1; omega
  have d2 : List.drop (1 + K) (List.take (1 + K + M) l) = List.take M (List.drop (1 + K) l) := by
    rw [List.drop_take]; congr 1; omega
  rw [d1, d2]
  refine OE ?_ (fun c hc => hw c (List.mem_of_mem_drop (List.mem_of_mem_take hc))) (fun i => ?_)
  · simp; omega
  simp only
  refine ⟨by omega, Hd (l.take (1 + K + M)), Ao _ ?_ ?_, fun h => ?_, fun h => ?_⟩
  · simp; omega
  · exact (B'.take _).b
  · have h3 : CL (List.take 4 (List.drop (1 + K + M) l)) ≠ Hd (List.take (1 + K + M) l) := by simpa using h
    unfold Li; simp only [Int.toNat_natCast]; rw [if_neg (by simp), if_neg h1, if_neg h2, if_pos h3]
  · have h3 : ¬ CL (List.take 4 (List.drop (1 + K + M) l)) ≠ Hd (List.take (1 + K + M) l) := by simpa using h
    refine ⟨gI l 0, OD (j := 0) hp, by omega, ?_, ?_⟩
    · simp; omega
    · unfold Li; simp only [Int.toNat_natCast]; rw [if_neg (by simp), if_neg h1, if_neg h2, if_neg h3]; simp
end Go.Proofs.YthlaenafkihjiaaGreat
namespace Go.Proofs.YthlaenafkihjiaaGreat
open Go.RowKit
set_option linter.unusedVariables false
set_option linter.unusedSimpArgs false
def XS (n lo hi : Int) : Int := if lo ≤ n ∧ n ≤ hi then 0 else 5
def AE (n m : Int) : Int := if n > m then 11 else 0
def Ze (x : Qu) (f : Nat) : Int :=
  match f with
  | 0 => Bh x.fName
  | 1 => Bh x.fOther
  | 2 => Hb x.fNames
  | 3 => Wr x.fParams.fKind x.fParams.fSize x.fParams.fDepth x.fParams.fSeed
  | 4 => Hc x.fItems
  | 5 => AE x.fCoins.length 64
  | 6 => XS x.fExpected 1 1048576
  | 7 => XS x.fSource 1 1048576
  | 8 => XS x.fHandle 0 3
  | 9 => XS x.fIndex 0 15
  | 10 => XS x.fCursor 0 3
  | 11 => XS x.fCount 0 32
  | 12 => Ux x.fQuery.fKind x.fQuery.fKey x.fQuery.fCount x.fQuery.fNum x.fQuery.fDen
  | _ => AE x.fData.length 65536
theorem KG (n lo hi : Int) : Zl n lo hi (XS n lo hi) := XW.2 rfl
theorem Uj (l : List Int) (m : Int) : Jg l m (AE l.length m) := by
  unfold Jg YH AE
  by_cases h : (l.length : Int) > m <;> simp [h]
theorem Dy (x : Qu) {f : Nat} (hf : f < 14) : JZ x (f : Int) (Ze x f) := by
  unfold JZ YI
  rcases YJ hf with rfl | rfl | rfl | rfl | rfl | rfl | rfl | rfl | rfl | rfl | rfl | rfl | rfl | rfl
  · simp; exact Wa x.fName
  · simp; exact Wa x.fOther
  · simp; exact Ed x.fNames
  · simp; exact UM x.fParams
  · simp; exact Dp x.fItems
  · simp; exact Uj x.fCoins 64
  · simp; exact KG x.fExpected 1 1048576
  · simp; exact KG x.fSource 1 1048576
  · simp; exact KG x.fHandle 0 3
  · simp; exact KG x.fIndex 0 15
  · simp; exact KG x.fCursor 0 3
  · simp; exact KG x.fCount 0 32
  · simp; exact Ec x.fQuery
  · simp; exact Uj x.fData 65536
theorem MX {α : Type} {f : α → Int} (h : ∀ x, 0 ≤ f x ∧ f x ≤ 18) (l : List α) : 0 ≤ AD f l ∧ AD f l ≤ 18 := by
  induction l with
  | nil => simp [AD]
  | cons a r ih => (unfold AD; split; exact h a; exact ih)
theorem Po (x : Qu) (f : Nat) : 0 ≤ Ze x f ∧ Ze x f ≤ 18 := by
  have hn : ∀ s, 0 ≤ Bh s ∧ Bh s ≤ 18 := by intro s; unfold Bh; split <;> decide
  have hi : ∀ s, 0 ≤ Fa s ∧ Fa s ≤ 18 := by
      intro s; unfold Fa; repeat' split
      all_goals decide
  have hs : ∀ n m, 0 ≤ AE n m ∧ AE n m ≤ 18 := by intro n m; unfold AE; split <;> decide
  have hr : ∀ n a b, 0 ≤ XS n a b ∧ XS n a b ≤ 18 := by intro n a b; unfold XS; split <;> decide
  have hl := MX hn
  have hl2 := MX hi
  unfold Ze
  split
  · exact hn _
  · exact hn _
  · unfold Hb; (split; decide; exact hl _)
  · unfold Wr; repeat' split
    all_goals decide
  · unfold Hc; (split; decide; exact hl2 _)
  · exact hs _ _
  · exact hr _ _ _
  · exact hr _ _ _
  · exact hr _ _ _
  · exact hr _ _ _
  · exact hr _ _ _
  · exact hr _ _ _
  · unfold Ux; repeat' split
    all_goals decide
  · exact hs _ _
theorem Rq {L : List Int} (h : ∀ e ∈ L, 0 ≤ e ∧ e ≤ 18) : 0 ≤ Ui L ∧ Ui L ≤ 18 := by
  induction L with
  | nil => simp [Ui]
  | cons a r ih => (unfold Ui; split; exact h a (by simp); exact ih fun e he => h e (by simp [he]))
def KZ (x : Qu) : Int := Eb (YW x) (Ze x)
theorem Pp (x : Qu) : 0 ≤ KZ x ∧ KZ x ≤ 18 := by
  have h : 0 ≤ Ui (Ub (YW x).kind (Ze x)) ∧ Ui (Ub (YW x).kind (Ze x)) ≤ 18 := by
    refine Rq fun e he => ?_
    unfold Ub at he
    obtain ⟨f, _, rfl⟩ := List.mem_map.1 he
    (split; exact Po _ _; decide)
  unfold KZ Eb
  split
  · decide
  · split
    · exact h
    · split <;> decide
theorem Jf (x : Qu) : K5 x (KZ x) := by
  refine ⟨?_, Ze x, fun f hf _ => Dy x hf, rfl⟩
  have h := Pp x
  simp [Lit.wf, IntKind.min, IntKind.max, IntKind.signed, IntKind.bits]; omega
theorem Ny {k : Int} (hk : K4 k) : [ZN k 0, ZN k 1, ZN k 2, ZN k 3, ZN k 4, ZN k 5, ZN k 6, ZN k 7, ZN k 8, ZN k 9, ZN k 10, ZN k 11, ZN k 12, ZN k 13] = [(Ac k).fe0, (Ac k).fe1, (Ac k).fe2, (Ac k).fe3, (Ac k).fe4, (Ac k).fe5, (Ac k).fe6, (Ac k).fe6, (Ac k).fe7, (Ac k).fe8, (Ac k).fe9, (Ac k).fe10, (Ac k).fe11, (Ac k).fe12] := by
  rcases FX hk with rfl | rfl | rfl | rfl | rfl | rfl | rfl | rfl | rfl | rfl | rfl | rfl | rfl | rfl | rfl | rfl | rfl <;> decide
theorem Lk {x : Qu} (h : ¬ K4 x.fKind) : KZ x = 8 := by unfold KZ Eb; rw [if_pos (by simpa [YW] using h)]
theorem OF {x : Qu} (hk : K4 x.fKind) {b0 b1 b2 b3 b4 b5 b6 b7 b8 b9 b10 b11 b12 : Bool} (hu : Ac x.fKind = Kn.mk b0 b1 b2 b3 b4 b5 b6 b7 b8 b9 b10 b11 b12) :
    KZ x = if Ui [if b0 = true then Ze x 0 else 0, if b1 = true then Ze x 1 else 0, if b2 = true then Ze x 2 else 0, if b3 = true then Ze x 3 else 0, if b4 = true then Ze x 4 else 0, if b5 = true then Ze x 5 else 0, if b6 = true then Ze x 6 else 0, if b6 = true then Ze x 7 else 0, if b7 = true then Ze x 8 else 0, if b8 = true then Ze x 9 else 0, if b9 = true then Ze x 10 else 0, if b10 = true then Ze x 11 else 0, if b11 = true then Ze x 12 else 0, if b12 = true then Ze x 13 else 0] ≠ 0 then Ui [if b0 = true then Ze x 0 else 0, if b1 = true then Ze x 1 else 0, if b2 = true then Ze x 2 else 0, if b3 = true then Ze x 3 else 0, if b4 = true then Ze x 4 else 0, if b5 = true then Ze x 5 else 0, if b6 = true then Ze x 6 else 0, if b6 = true then Ze x 7 else 0, if b7 = true then Ze x 8 else 0, if b8 = true then Ze x 9 else 0, if b9 = true then Ze x 10 else 0, if b10 = true then Ze x 11 else 0, if b11 = true then Ze x 12 else 0, if b12 = true then Ze x 13 else 0]
      else if ((b0 || x.fName.toList == []) && (b1 || x.fOther.toList == []) && (b2 || decide (x.fNames.length = 0)) && (b3 || decide (x.fParams.fKind = 0 ∧ x.fParams.fSize = 0 ∧ x.fParams.fDepth = 0 ∧ x.fParams.fSeed = 0)) && (b4 || decide (x.fItems.length = 0)) && (b5 || decide (x.fCoins.length = 0)) && (b6 || decide (x.fExpected = 0)) && (b6 || decide (x.fSource = 0)) && (b7 || decide (x.fHandle = 0)) && (b8 || decide (x.fIndex = 0)) && (b9 || decide (x.fCursor = 0)) && (b10 || decide (x.fCount = 0)) && (b11 || decide (x.fQuery.fKind = 0 ∧ x.fQuery.fKey.toList = [] ∧ x.fQuery.fCount = 0 ∧ x.fQuery.fNum = 0 ∧ x.fQuery.fDen = 0)) && (b12 || decide (x.fData.length = 0))) = true then 0 else 18 := by
  have h := Ny hk
  rw [hu] at h
  simp only [List.cons.injEq, and_true] at h
  obtain ⟨m0, m1, m2, m3, m4, m5, m6, m7, m8, m9, m10, m11, m12, m13⟩ := h
  have r14 : List.range 14 = [0, 1, 2, 3, 4, 5, 6, 7, 8, 9, 10, 11, 12, 13] := by decide
  have e : Ub x.fKind (Ze x) = [if b0 = true then Ze x 0 else 0, if b1 = true then Ze x 1 else 0, if b2 = true then Ze x 2 else 0, if b3 = true then Ze x 3 else 0, if b4 = true then Ze x 4 else 0, if b5 = true then Ze x 5 else 0, if b6 = true then Ze x 6 else 0, if b6 = true then Ze x 7 else 0, if b7 = true then Ze x 8 else 0, if b8 = true then Ze x 9 else 0, if b9 = true then Ze x 10 else 0, if b10 = true then Ze x 11 else 0, if b11 = true then Ze x 12 else 0, if b12 = true then Ze x 13 else 0] := by
    unfold Ub; rw [r14]
    simp only [List.map_cons, List.map_nil, m0, m1, m2, m3, m4, m5, m6, m7, m8, m9, m10, m11, m12, m13]
  have z : ((List.range 14).all fun f => ZN x.fKind f || A9 (YW x) f) = ((b0 || x.fName.toList == []) && (b1 || x.fOther.toList == []) && (b2 || decide (x.fNames.length = 0)) && (b3 || decide (x.fParams.fKind = 0 ∧ x.fParams.fSize = 0 ∧ x.fParams.fDepth = 0 ∧ x.fParams.fSeed = 0)) && (b4 || decide (x.fItems.length = 0)) && (b5 || decide (x.fCoins.length = 0)) && (b6 || decide (x.fExpected = 0)) && (b6 || decide (x.fSource = 0)) && (b7 || decide (x.fHandle = 0)) && (b8 || decide (x.fIndex = 0)) && (b9 || decide (x.fCursor = 0)) && (b10 || decide (x.fCount = 0)) && (b11 || decide (x.fQuery.fKind = 0 ∧ x.fQuery.fKey.toList = [] ∧ x.fQuery.fCount = 0 ∧ x.fQuery.fNum = 0 ∧ x.fQuery.fDen = 0)) && (b12 || decide (x.fData.length = 0))) := by
    rw [r14]
    simp only [List.all_cons, List.all_nil, Bool.and_true, m0, m1, m2, m3, m4, m5, m6, m7, m8, m9, m10, m11, m12, m13, Bool.and_assoc]
    simp only [A9, YW, List.length_map]
    rfl
  unfold KZ Eb
  rw [if_neg (by simpa [YW] using hk)]
  change (if Ui (Ub x.fKind (Ze x)) ≠ 0 then Ui (Ub x.fKind (Ze x)) else if (List.range 14).all (fun f => ZN x.fKind f || A9 (YW x) f) = true then 0 else 18) = _
  rw [e, z]
theorem OG (L : List Int) (t : Int) : Ui (L ++ [t]) = if Ui L ≠ 0 then Ui L else t := by
  induction L with
  | nil => by_cases h : t = 0 <;> simp [Ui, h]
  | cons a r ih =>
    by_cases h : a ≠ 0
    · simp [Ui, h]
    · have h0 : a = 0 := by simpa using h
      simp only [List.cons_append, Ui, h0, ne_eq, not_true, if_false]; exact ih
theorem Y6 {V a : Int} {r : List Int} (h : V = Ui (a :: r)) (h0 : a = 0) : V = Ui r := by rw [h, Ui, if_neg (by simp [h0])]
theorem Ll {V a : Int} {r : List Int} (h : V = Ui (a :: r)) (h0 : a ≠ 0) : V = a := by rw [h, Ui, if_pos h0]
theorem Uz {V a b : Int} {r : List Int} (h : V = Ui (a :: r)) (h0 : a = b) (hb : b ≠ 0) : V = b := by rw [Ll h (by rw [h0]; exact hb), h0]
def bz (b : Bool) (c : Int) : Int := if b = true then c else 0
theorem GJ {b : Bool} {c : Int} (h : b = true) : bz b c = c := by rw [bz, if_pos h]
theorem Pq {b : Bool} {c : Int} (h : b = false) : bz b c = 0 := by rw [bz, if_neg (by simp [h])]
theorem OH {b w : Bool} {c : Int} (h : ¬ bz b (if w = true then 0 else c) = 0) : bz b (if w = true then 0 else c) = c := by cases b <;> cases w <;> simp_all [bz]
theorem PM {b0 b1 n0 n1 : Bool} {c : Int} (hc : c ≠ 0) (h : (b0 && !n0 || b1 && !n1) = true) (h0 : bz b0 (if n0 = true then 0 else c) = 0) : bz b1 (if n1 = true then 0 else c) = c := by
  cases b0 <;> cases b1 <;> cases n0 <;> cases n1 <;> simp_all [bz]
theorem PN {b w : Bool} {c : Int} (h : (b && !w) = false) : bz b (if w = true then 0 else c) = 0 := by cases b <;> cases w <;> simp_all [bz]
theorem d_or4 {b0 b1 b2 b3 n0 n1 n2 n3 : Bool} {c : Int} (hc : c ≠ 0) (h : (b0 && !n0 || b1 && !n1 || b2 && !n2 || b3 && !n3) = true) (h0 : bz b0 (if n0 = true then 0 else c) = 0) (h1 : bz b1 (if n1 = true then 0 else c) = 0) (h2 : bz b2 (if n2 = true then 0 else c) = 0) : bz b3 (if n3 = true then 0 else c) = c := by
  cases b0 <;> cases n0 <;> cases b1 <;> cases n1 <;> cases b2 <;> cases n2 <;> simp_all [bz]
def OI (x : Qu) (u : Kn) : Int := if ((u.fe0 || x.fName.toList == []) && (u.fe1 || x.fOther.toList == []) && (u.fe2 || decide (x.fNames.length = 0)) && (u.fe3 || decide (x.fParams.fKind = 0 ∧ x.fParams.fSize = 0 ∧ x.fParams.fDepth = 0 ∧ x.fParams.fSeed = 0)) && (u.fe4 || decide (x.fItems.length = 0)) && (u.fe5 || decide (x.fCoins.length = 0)) && (u.fe6 || decide (x.fExpected = 0)) && (u.fe6 || decide (x.fSource = 0)) && (u.fe7 || decide (x.fHandle = 0)) && (u.fe8 || decide (x.fIndex = 0)) && (u.fe9 || decide (x.fCursor = 0)) && (u.fe10 || decide (x.fCount = 0)) && (u.fe11 || decide (x.fQuery.fKind = 0 ∧ x.fQuery.fKey.toList = [] ∧ x.fQuery.fCount = 0 ∧ x.fQuery.fNum = 0 ∧ x.fQuery.fDen = 0)) && (u.fe12 || decide (x.fData.length = 0))) = true then 0 else 18
theorem Pr {x : Qu} (hk : K4 x.fKind) {b0 b1 b2 b3 b4 b5 b6 b7 b8 b9 b10 b11 b12 : Bool} (hu : Ac x.fKind = Kn.mk b0 b1 b2 b3 b4 b5 b6 b7 b8 b9 b10 b11 b12) :
    KZ x = Ui [bz b0 (Ze x 0), bz b1 (Ze x 1), bz b2 (Ze x 2), bz b3 (Ze x 3), bz b4 (Ze x 4), bz b5 (Ze x 5), bz b6 (Ze x 6), bz b6 (Ze x 7), bz b7 (Ze x 8), bz b8 (Ze x 9), bz b9 (Ze x 10), bz b10 (Ze x 11), bz b11 (Ze x 12), bz b12 (Ze x 13), OI x (Kn.mk b0 b1 b2 b3 b4 b5 b6 b7 b8 b9 b10 b11 b12)] :=
  (OF hk hu).trans (OG [bz b0 (Ze x 0), bz b1 (Ze x 1), bz b2 (Ze x 2), bz b3 (Ze x 3), bz b4 (Ze x 4), bz b5 (Ze x 5), bz b6 (Ze x 6), bz b6 (Ze x 7), bz b7 (Ze x 8), bz b8 (Ze x 9), bz b9 (Ze x 10), bz b10 (Ze x 11), bz b11 (Ze x 12), bz b12 (Ze x 13)] _).symm
theorem UN (x : Qu) : Jx x (KZ x) := by
  unfold Jx W9
  simp only [U4, exists_eq_left, jn, Jh, JL]
  by_cases hk : K4 x.fKind
  case neg =>
    have hw : wI x.fKind 1 17 = false := by simpa [wI, K4] using hk
    rw [hw]
    exact ⟨fun _ => Lk hk, fun h => by simp at h⟩
  have hw : wI x.fKind 1 17 = true := by simpa [wI, K4] using hk
  refine ⟨fun h => by simp [hw] at h, fun _ => ?_⟩
  refine ⟨Ac x.fKind, I1 _, BY x.fName, fun _ => Uy _, BY x.fOther, fun _ => Uy _, ?_⟩
  rcases hU : Ac x.fKind with ⟨b0, b1, b2, b3, b4, b5, b6, b7, b8, b9, b10, b11, b12⟩
  have hv := Pr hk hU
  generalize KZ x = V at hv ⊢
  simp only
  have l1 : Jn x b2 false (bz b2 (Ze x 2)) := by
    have := BZ x b2 false
    have e : Ee x b2 false = bz b2 (Ze x 2) := by unfold Ee bz; show _ = if b2 = true then Hb x.fNames else 0; grind
    rwa [e] at this
  have l2 : Jn x false b4 (bz b4 (Ze x 4)) := by
    have := BZ x false b4
    have e : Ee x false b4 = bz b4 (Ze x 4) := by unfold Ee bz; show _ = if b4 = true then Hc x.fItems else 0; grind
    rwa [e] at this
  have p3 := VM x.fParams
  have p12 := AC x.fQuery
  change Zy x.fParams (Ze x 3) at p3
  change Kj x.fQuery (Ze x 12) at p12
  refine ⟨fun h => ?_, fun h => ?_⟩
  · by_cases h0 : bz b0 (Ze x 0) = 0
    · exact Uz (Y6 hv h0) (PM (c := 6) (by decide) h h0) (by decide)
    · exact Uz hv (OH (c := 6) h0) (by decide)
  have hh := Bool.or_eq_false_iff.1 h
  have z0 : bz b0 (Ze x 0) = 0 := PN (c := 6) hh.1
  have z1 : bz b1 (Ze x 1) = 0 := PN (c := 6) hh.2
  replace hv := Y6 (Y6 hv z0) z1
  clear h hh z0 z1
  refine ⟨_, l1, fun h => Ll hv (by simpa using h), fun h => ?_⟩
  replace hv := Y6 hv (by simpa using h)
  clear h l1
  suffices rest : V = Ui [bz b4 (Ze x 4), bz b5 (Ze x 5), bz b6 (Ze x 6), bz b6 (Ze x 7), bz b7 (Ze x 8), bz b8 (Ze x 9), bz b9 (Ze x 10), bz b10 (Ze x 11), bz b11 (Ze x 12), bz b12 (Ze x 13), OI x (Kn.mk b0 b1 b2 b3 b4 b5 b6 b7 b8 b9 b10 b11 b12)] → _ by
    refine ⟨fun hb => ⟨_, p3, fun h => ?_, fun h => rest (Y6 hv ?_)⟩, fun hb => rest (Y6 hv (Pq hb))⟩
    · rw [Ll hv (by rw [GJ hb]; simpa using h), GJ hb]
    · rw [GJ hb]; simpa using h
  clear hv p3
  intro hv
  refine ⟨_, l2, fun h => Ll hv (by simpa using h), fun h => ?_⟩
  replace hv := Y6 hv (by simpa using h)
  clear h l2
  have e5 : Ze x 5 = if (x.fCoins.length : Int) > 64 then 11 else 0 := rfl
  refine ⟨fun h => ?_, fun h => ?_⟩
  · have h := Bool.and_eq_true_iff.1 h
    exact Uz hv (by rw [GJ h.1, e5, if_pos (by simpa using h.2)]) (by decide)
  have z5 : bz b5 (Ze x 5) = 0 := by
    cases b5
    · exact Pq rfl
    · rw [GJ rfl, e5, if_neg (by simpa using h)]
  replace hv := Y6 hv z5
  clear h z5 e5
  have er : ∀ n lo hi, XS n lo hi = if wI n lo hi = true then 0 else 5 := by intro n lo hi; unfold XS wI; simp
  have e6 : Ze x 6 = if wI x.fExpected 1 1048576 = true then 0 else 5 := er _ _ _
  have e7 : Ze x 7 = if wI x.fSource 1 1048576 = true then 0 else 5 := er _ _ _
  have e8 : Ze x 8 = if wI x.fHandle 0 3 = true then 0 else 5 := er _ _ _
  have e9 : Ze x 9 = if wI x.fIndex 0 15 = true then 0 else 5 := er _ _ _
  have e10 : Ze x 10 = if wI x.fCursor 0 3 = true then 0 else 5 := er _ _ _
  have e11 : Ze x 11 = if wI x.fCount 0 32 = true then 0 else 5 := er _ _ _
  clear er
  rw [e6, e7, e8, e9, e10, e11] at hv
  clear e6 e7 e8 e9 e10 e11
  generalize wI x.fExpected 1 1048576 = w6 at *
  generalize wI x.fSource 1 1048576 = w7 at *
  generalize wI x.fHandle 0 3 = w8 at *
  generalize wI x.fIndex 0 15 = w9 at *
  generalize wI x.fCursor 0 3 = w10 at *
  generalize wI x.fCount 0 32 = w11 at *
  refine ⟨w6, fun _ => rfl, w7, fun _ => rfl, fun h => ?_, fun h => ?_⟩
  · have h' : (b6 && !w6 || b6 && !w7) = true := by rw [← Bool.and_or_distrib_left]; exact h
    by_cases h0 : bz b6 (if w6 = true then 0 else 5) = 0
    · exact Uz (Y6 hv h0) (PM (by decide) h' h0) (by decide)
    · exact Uz hv (OH h0) (by decide)
  have hh : (b6 && !w6) = false ∧ (b6 && !w7) = false := by rw [← Bool.or_eq_false_iff, ← Bool.and_or_distrib_left]; exact h
  replace hv := Y6 (Y6 hv (PN hh.1)) (PN hh.2)
  clear h hh
  refine ⟨w8, fun _ => rfl, w9, fun _ => rfl, w10, fun _ => rfl, w11, fun _ => rfl, fun h => ?_, fun h => ?_⟩
  · by_cases h0 : bz b7 (if w8 = true then 0 else 5) = 0
    · replace hv := Y6 hv h0
      by_cases h1 : bz b8 (if w9 = true then 0 else 5) = 0
      · replace hv := Y6 hv h1
        by_cases h2 : bz b9 (if w10 = true then 0 else 5) = 0
        · exact Uz (Y6 hv h2) (d_or4 (by decide) h h0 h1 h2) (by decide)
        · exact Uz hv (OH h2) (by decide)
      · exact Uz hv (OH h1) (by decide)
    · exact Uz hv (OH h0) (by decide)
  have k1 := Bool.or_eq_false_iff.1 h
  have k2 := Bool.or_eq_false_iff.1 k1.1
  have k3 := Bool.or_eq_false_iff.1 k2.1
  replace hv := Y6 (Y6 (Y6 (Y6 hv (PN k3.1)) (PN k3.2)) (PN k2.2)) (PN k1.2)
  clear h k1 k2 k3
  suffices rest : V = Ui [bz b12 (Ze x 13), OI x (Kn.mk b0 b1 b2 b3 b4 b5 b6 b7 b8 b9 b10 b11 b12)] → _ by
    refine ⟨fun hb => ⟨_, p12, fun h => ?_, fun h => rest (Y6 hv ?_)⟩, fun hb => rest (Y6 hv (Pq hb))⟩
    · rw [Ll hv (by rw [GJ hb]; simpa using h), GJ hb]
    · rw [GJ hb]; simpa using h
  clear hv p12
  intro hv
  have e13 : Ze x 13 = if (x.fData.length : Int) > 65536 then 11 else 0 := rfl
  refine ⟨fun h => ?_, fun h => ?_⟩
  · have h := Bool.and_eq_true_iff.1 h
    exact Uz hv (by rw [GJ h.1, e13, if_pos (by simpa using h.2)]) (by decide)
  have z13 : bz b12 (Ze x 13) = 0 := by
    cases b12
    · exact Pq rfl
    · rw [GJ rfl, e13, if_neg (by simpa using h)]
  replace hv := Y6 hv z13
  clear h z13 e13
  have hv2 : V = OI x (Kn.mk b0 b1 b2 b3 b4 b5 b6 b7 b8 b9 b10 b11 b12) := by
    rw [hv]; unfold Ui; split <;> simp_all [Ui]
  subst hv2
  unfold OI
  simp only
  have n0 : (ByteArray.empty).toList = [] := Yh
  have lg : ∀ n : Nat, decide ((n : Int) > 0) = !decide (n = 0) := by
    intro n; by_cases h : n = 0
    · subst h; rfl
    · have : (n : Int) > 0 := by omega
      simp [h]; omega
  have ne : ∀ n : Int, (n != 0) = !decide (n = 0) := fun n => rfl
  have ee : ∀ n : Int, (n == 0) = decide (n = 0) := fun n => rfl
  have el : ∀ s : ByteArray, (s.toList == []) = decide (s.toList = []) := by intro s; by_cases h : s.toList = [] <;> simp [h]
  simp only [Yh, n0, lg, ne, ee, el, Bool.and_true, ← Bool.decide_and]
  have pp : decide (x.fExpected = 0) = decide (x.fExpected = 0) := rfl
  generalize decide (x.fExpected = 0) = a6
  generalize decide (x.fSource = 0) = a7
  generalize decide (x.fName.toList = []) = a0
  generalize decide (x.fOther.toList = []) = a1
  generalize decide (x.fNames.length = 0) = a2
  generalize decide (x.fItems.length = 0) = a4
  generalize decide (x.fCoins.length = 0) = a5
  generalize decide (x.fHandle = 0) = a8
  generalize decide (x.fIndex = 0) = a9
  generalize decide (x.fCursor = 0) = a10
  generalize decide (x.fCount = 0) = a11
  generalize decide (x.fData.length = 0) = a13
  generalize decide (x.fParams.fKind = 0 ∧ x.fParams.fSize = 0 ∧ x.fParams.fDepth = 0 ∧ x.fParams.fSeed = 0) = a3
  generalize decide (x.fQuery.fKind = 0 ∧ x.fQuery.fKey.toList = [] ∧ x.fQuery.fCount = 0 ∧ x.fQuery.fNum = 0 ∧ x.fQuery.fDen = 0) = a12
  have key : ((((((((((((!b0 && !a0 || !b1 && !a1) || !b2 && !a2) || !b3 && !a3) || !b4 && !a4) || !b5 && !a5) || !b6 && (!a6 || !a7)) || !b7 && !a8) || !b8 && !a9) || !b9 && !a10) || !b10 && !a11) || !b11 && !a12) || !b12 && !a13) = !((b0 || a0) && (b1 || a1) && (b2 || a2) && (b3 || a3) && (b4 || a4) && (b5 || a5) && (b6 || a6) && (b6 || a7) && (b7 || a8) && (b8 || a9) && (b9 || a10) && (b10 || a11) && (b11 || a12) && (b12 || a13)) := by
    cases b6 <;> simp [Bool.not_and, Bool.not_or, Bool.or_assoc]
  refine ⟨fun h => if_neg fun h2 => ?_, fun h => if_pos ?_⟩
  · rw [key, h2] at h; cases h
  · rw [key, Bool.not_eq_false'] at h; exact h
end Go.Proofs.YthlaenafkihjiaaGreat
namespace Go.Proofs.YthlaenafkihjiaaGreat
open Go.RowKit
set_option linter.unusedVariables false
set_option linter.unusedSimpArgs false
theorem Ps {L : List Int} (h : Ui L = 0) : ∀ e ∈ L, e = 0 := by
  induction L with
  | nil => simp
  | cons a r ih =>
    unfold Ui at h
    by_cases ha : a = 0
    · subst ha; simp at h; intro e he; rcases List.mem_cons.1 he with rfl | he
      · rfl
      · exact ih h e he
    · rw [if_pos ha] at h; exact absurd h ha
theorem Pt {x : Qu} (h : KZ x = 0) : K4 x.fKind ∧ ∀ f, f < 14 → if ZN x.fKind f = true then Ze x f = 0 else A9 (YW x) f = true := by
  have hk : K4 x.fKind := by
    by_cases hk : K4 x.fKind
    · exact hk
    · rw [Lk hk] at h; cases h
  refine ⟨hk, fun f hf => ?_⟩
  unfold KZ Eb at h
  rw [if_neg (by simpa [YW] using hk)] at h
  by_cases hz : Ui (Ub (YW x).kind (Ze x)) = 0
  · rw [hz] at h; simp only [ne_eq, not_true, if_false] at h
    have ha : (List.range 14).all (fun f => ZN (YW x).kind f || A9 (YW x) f) = true := by
      by_cases ha : (List.range 14).all (fun f => ZN (YW x).kind f || A9 (YW x) f) = true
      · exact ha
      · rw [if_neg ha] at h; cases h
    have h1 := List.all_eq_true.1 ha f (by simpa using hf)
    have h2 := Ps hz (if ZN x.fKind f = true then Ze x f else 0) (by
      unfold Ub; exact List.mem_map.2 ⟨f, by simpa using hf, rfl⟩)
    change (ZN x.fKind f || A9 (YW x) f) = true at h1
    cases hm : ZN x.fKind f
    · rw [hm] at h1; simpa using h1
    · rw [hm] at h2; simpa using h2
  · rw [if_pos hz] at h; exact absurd h hz
structure Fit (x : Qu) : Prop where
  kind : 1 ≤ x.fKind ∧ x.fKind ≤ 17
  name : x.fName.size ≤ 16
  other : x.fOther.size ≤ 16
  names : x.fNames.length ≤ 16
  each : ∀ s ∈ x.fNames, s.size ≤ 16
  pk : 0 ≤ x.fParams.fKind ∧ x.fParams.fKind ≤ 6
  ps : 0 ≤ x.fParams.fSize ∧ x.fParams.fSize ≤ 64
  pd : 0 ≤ x.fParams.fDepth ∧ x.fParams.fDepth ≤ 8
  items : x.fItems.length ≤ 64
  item : ∀ t ∈ x.fItems, t.fKey.size ≤ 32 ∧ 1 ≤ t.fWeight ∧ t.fWeight ≤ 4294967295
  coins : x.fCoins.length ≤ 64
  ex : 0 ≤ x.fExpected ∧ x.fExpected ≤ 1048576
  so : 0 ≤ x.fSource ∧ x.fSource ≤ 1048576
  ha : 0 ≤ x.fHandle ∧ x.fHandle ≤ 3
  ix : 0 ≤ x.fIndex ∧ x.fIndex ≤ 15
  cu : 0 ≤ x.fCursor ∧ x.fCursor ≤ 3
  co : 0 ≤ x.fCount ∧ x.fCount ≤ 32
  qk : 0 ≤ x.fQuery.fKind ∧ x.fQuery.fKind ≤ 7
  qs : x.fQuery.fKey.size ≤ 32
  qc : 0 ≤ x.fQuery.fCount ∧ x.fQuery.fCount ≤ 32
  qn : 0 ≤ x.fQuery.fNum ∧ x.fQuery.fNum ≤ 1000000
  qd : 0 ≤ x.fQuery.fDen ∧ x.fQuery.fDen ≤ 1000000
  data : x.fData.length ≤ 65536
theorem Gd {s : ByteArray} (h : (s.toList == []) = true) : s.size = 0 := by
  have e : s.toList = [] := by simpa using h
  rw [ByteArray.toList_eq] at e
  have := congrArg List.length e
  rw [Array.length_toList] at this; exact this
theorem OJ {s : ByteArray} (h : Bh s = 0) : s.size ≤ 16 := by
  unfold Bh at h
  have : BY s = true := by
    cases hb : BY s with
    | true => rfl
    | false => rw [hb] at h; cases h
  unfold BY at this
  simp at this; omega
theorem Lm {α : Type} {f : α → Int} {l : List α} (h : AD f l = 0) : ∀ x ∈ l, f x = 0 := by
  induction l with
  | nil => simp
  | cons a r ih =>
    unfold AD at h
    by_cases ha : f a = 0
    · rw [if_neg (by simp [ha])] at h
      intro x hx
      rcases List.mem_cons.1 hx with rfl | hx
      · exact ha
      · exact ih h x hx
    · rw [if_pos ha] at h; exact absurd h ha
theorem Bv {n a b : Int} (h : XS n a b = 0) : a ≤ n ∧ n ≤ b := by
  unfold XS at h; split at h
  · assumption
  · cases h
theorem MY {n : Nat} {m : Int} (h : AE n m = 0) : (n : Int) ≤ m := by
  unfold AE at h; split at h
  · cases h
  · omega
theorem two {b : Bool} {A B : Prop} (h : if b = true then A else B) : A ∨ B := by cases b <;> simp_all
theorem Pu {k s d z : Int} (h : Wr k s d z = 0) : (0 ≤ k ∧ k ≤ 6) ∧ (0 ≤ s ∧ s ≤ 64) ∧ (0 ≤ d ∧ d ≤ 8) := by
  unfold Wr at h; repeat' split at h
  all_goals omega
theorem Pv {k : Int} {s : ByteArray} {c n d : Int} (h : Ux k s c n d = 0) (hs : s.toList = [] → s.size = 0) : (0 ≤ k ∧ k ≤ 7) ∧ s.size ≤ 32 ∧ (0 ≤ c ∧ c ≤ 32) ∧ (0 ≤ n ∧ n ≤ 1000000) ∧ (0 ≤ d ∧ d ≤ 1000000) := by
  unfold Ux at h
  by_cases e : s.toList = []
  · have := hs e
    simp only [e, ne_eq, not_true, and_false, false_or] at h
    repeat' split at h
    all_goals omega
  · simp only [e, ne_eq, not_false_eq_true, and_true] at h
    repeat' split at h
    all_goals omega
theorem OK {x : Qu} (h : KZ x = 0) : Fit x := by
  obtain ⟨hk, hf⟩ := Pt h
  have g : ∀ f, f < 14 → Ze x f = 0 ∨ A9 (YW x) f = true := fun f hlt => two (hf f hlt)
  have g0 := g 0 (by decide); have g1 := g 1 (by decide); have g2 := g 2 (by decide); have g3 := g 3 (by decide); have g4 := g 4 (by decide); have g5 := g 5 (by decide); have g6 := g 6 (by decide)
  have g7 := g 7 (by decide); have g8 := g 8 (by decide); have g9 := g 9 (by decide); have g10 := g 10 (by decide); have g11 := g 11 (by decide); have g12 := g 12 (by decide); have g13 := g 13 (by decide)
  change Bh x.fName = 0 ∨ (x.fName.toList == []) = true at g0
  change Bh x.fOther = 0 ∨ (x.fOther.toList == []) = true at g1
  change Hb x.fNames = 0 ∨ decide (x.fNames.length = 0) = true at g2
  change Wr x.fParams.fKind x.fParams.fSize x.fParams.fDepth x.fParams.fSeed = 0 ∨ decide (x.fParams.fKind = 0 ∧ x.fParams.fSize = 0 ∧ x.fParams.fDepth = 0 ∧ x.fParams.fSeed = 0) = true at g3
  change Hc x.fItems = 0 ∨ decide ((x.fItems.map (fun x => (x.fKey, x.fWeight))).length = 0) = true at g4
  change AE x.fCoins.length 64 = 0 ∨ decide (x.fCoins.length = 0) = true at g5
  change XS x.fExpected 1 1048576 = 0 ∨ decide (x.fExpected = 0) = true at g6
  change XS x.fSource 1 1048576 = 0 ∨ decide (x.fSource = 0) = true at g7
  change XS x.fHandle 0 3 = 0 ∨ decide (x.fHandle = 0) = true at g8
  change XS x.fIndex 0 15 = 0 ∨ decide (x.fIndex = 0) = true at g9
  change XS x.fCursor 0 3 = 0 ∨ decide (x.fCursor = 0) = true at g10
  change XS x.fCount 0 32 = 0 ∨ decide (x.fCount = 0) = true at g11
  change Ux x.fQuery.fKind x.fQuery.fKey x.fQuery.fCount x.fQuery.fNum x.fQuery.fDen = 0 ∨ decide (x.fQuery.fKind = 0 ∧ x.fQuery.fKey.toList = [] ∧ x.fQuery.fCount = 0 ∧ x.fQuery.fNum = 0 ∧ x.fQuery.fDen = 0) = true at g12
  change AE x.fData.length 65536 = 0 ∨ decide (x.fData.length = 0) = true at g13
  simp only [decide_eq_true_eq] at g2 g3 g4 g5 g6 g7 g8 g9 g10 g11 g12 g13
  have n2 : x.fNames.length ≤ 16 ∧ ∀ s ∈ x.fNames, s.size ≤ 16 := by
    rcases g2 with g | g
    · unfold Hb at g; split at g
      · cases g
      · exact ⟨by omega, fun s hs => OJ (Lm g s hs)⟩
    · have : x.fNames = [] := List.eq_nil_of_length_eq_zero g
      simp [this]
  have n4 : x.fItems.length ≤ 64 ∧ ∀ t ∈ x.fItems, t.fKey.size ≤ 32 ∧ 1 ≤ t.fWeight ∧ t.fWeight ≤ 4294967295 := by
    rcases g4 with g | g
    · unfold Hc at g; split at g
      · cases g
      · refine ⟨by omega, fun t ht => ?_⟩
        have := Lm g t ht
        unfold Fa at this; grind
    · rw [List.length_map] at g
      have : x.fItems = [] := List.eq_nil_of_length_eq_zero g
      simp [this]
  have n3 : (0 ≤ x.fParams.fKind ∧ x.fParams.fKind ≤ 6) ∧ (0 ≤ x.fParams.fSize ∧ x.fParams.fSize ≤ 64) ∧ (0 ≤ x.fParams.fDepth ∧ x.fParams.fDepth ≤ 8) := by
    rcases g3 with g | g
    · exact Pu g
    · omega
  have n12 : (0 ≤ x.fQuery.fKind ∧ x.fQuery.fKind ≤ 7) ∧ x.fQuery.fKey.size ≤ 32 ∧ (0 ≤ x.fQuery.fCount ∧ x.fQuery.fCount ≤ 32) ∧ (0 ≤ x.fQuery.fNum ∧ x.fQuery.fNum ≤ 1000000) ∧ (0 ≤ x.fQuery.fDen ∧ x.fQuery.fDen ≤ 1000000) := by
    have hs : x.fQuery.fKey.toList = [] → x.fQuery.fKey.size = 0 := fun h => Gd (by simp [h])
    rcases g12 with g | g
    · exact Pv g hs
    · have := hs g.2.1; omega
  refine ⟨hk, ?_, ?_, n2.1, n2.2, n3.1, n3.2.1, n3.2.2, n4.1, n4.2, ?_, ?_, ?_, ?_, ?_, ?_, ?_, n12.1, n12.2.1, n12.2.2.1, n12.2.2.2.1, n12.2.2.2.2, ?_⟩
  · rcases g0 with g | g
    · exact OJ g
    · have := Gd g; omega
  · rcases g1 with g | g
    · exact OJ g
    · have := Gd g; omega
  · rcases g5 with g | g
    · have := MY g; omega
    · omega
  · rcases g6 with g | g
    · have := Bv g; omega
    · omega
  · rcases g7 with g | g
    · have := Bv g; omega
    · omega
  · rcases g8 with g | g
    · exact Bv g
    · omega
  · rcases g9 with g | g
    · exact Bv g
    · omega
  · rcases g10 with g | g
    · exact Bv g
    · omega
  · rcases g11 with g | g
    · exact Bv g
    · omega
  · rcases g13 with g | g
    · have := MY g; omega
    · omega
end Go.Proofs.YthlaenafkihjiaaGreat
namespace Go.Proofs.YthlaenafkihjiaaGreat
open Go.RowKit
set_option linter.unusedVariables false
set_option linter.unusedSimpArgs false
def MZ (t : Qb) : List Int := Bi t.fKey ++ V4 t.fWeight
def I7 (x : Qu) : List Int := ((((([] ++ [x.fKind].flatMap V4) ++ [x.fName, x.fOther].flatMap Bi) ++ [(x.fNames.length : Int)].flatMap V4) ++ x.fNames.flatMap Bi) ++ [x.fParams.fKind, x.fParams.fSize, x.fParams.fDepth].flatMap V4) ++ Ua 8 x.fParams.fSeed
def I8 (x : Qu) : List Int := (I7 x ++ [(x.fItems.length : Int)].flatMap V4) ++ x.fItems.flatMap MZ
def Yx (x : Qu) : List Int := ((((I8 x ++ [strOfNums x.fCoins].flatMap Bi) ++ [x.fExpected, x.fSource, x.fHandle, x.fIndex, x.fCursor, x.fCount, x.fQuery.fKind].flatMap V4) ++ [x.fQuery.fKey].flatMap Bi) ++ [x.fQuery.fCount, x.fQuery.fNum, x.fQuery.fDen].flatMap V4) ++ [strOfNums x.fData].flatMap Bi
theorem I9 {α : Type} {f : α → List Int} {m : Nat} {l : List α} (h : ∀ t ∈ l, (f t).length ≤ m) : (l.flatMap f).length ≤ m * l.length := by
  induction l with
  | nil => simp
  | cons a r ih =>
    have h1 := h a (by simp)
    have h2 := ih fun t ht => h t (by simp [ht])
    simp only [List.flatMap_cons, List.length_append, List.length_cons, Nat.mul_add]
    omega
theorem Ia (s : ByteArray) (m : Nat) (h : s.size ≤ m) : (Bi s).length ≤ m + 9 := by
  unfold Bi; split
  · simp
  · have hL := Yu (s.size : Int)
    have hs := VV s
    simp; omega
theorem N0 {x : Qu} (h : Fit x) : (I7 x).length ≤ 1000 := by
  have k1 := ZD x.fKind; have k2 := Ia x.fName 16 h.name; have k3 := Ia x.fOther 16 h.other
  have k4 := ZD (x.fNames.length : Int); have k5 := I9 (f := Bi) (m := 25) (l := x.fNames) (fun t ht => Ia t 16 (h.each t ht))
  have k6 := ZD x.fParams.fKind; have k7 := ZD x.fParams.fSize; have k8 := ZD x.fParams.fDepth
  have k9 := h.names
  simp only [I7, List.length_append, List.flatMap_cons, List.flatMap_nil, ZL, List.length_nil]; omega
theorem Mc {x : Qu} (h : Fit x) (t : Qb) (ht : t ∈ x.fItems) : (MZ t).length ≤ 50 := by
  have := Ia t.fKey 32 (h.item t ht).1
  have k := ZD t.fWeight
  unfold MZ; simp only [List.length_append]; omega
theorem N1 {x : Qu} (h : Fit x) : (I8 x).length ≤ 5000 := by
  have k1 := N0 h
  have k2 := ZD (x.fItems.length : Int)
  have k3 := I9 (f := MZ) (m := 50) (l := x.fItems) (fun t ht => Mc h t ht)
  have k4 := h.items
  simp only [I8, List.length_append, List.flatMap_cons, List.flatMap_nil, List.length_nil]; omega
theorem N2 {x : Qu} (h : Fit x) : (Yx x).length ≤ 300000 := by
  have k1 := N1 h
  have a1 := U6 (strOfNums x.fCoins); have a2 := U6 x.fQuery.fKey; have a3 := U6 (strOfNums x.fData)
  have b1 := ZD x.fExpected; have b2 := ZD x.fSource; have b3 := ZD x.fHandle; have b4 := ZD x.fIndex; have b5 := ZD x.fCursor; have b6 := ZD x.fCount
  have b7 := ZD x.fQuery.fKind; have b8 := ZD x.fQuery.fCount; have b9 := ZD x.fQuery.fNum; have c1 := ZD x.fQuery.fDen
  simp only [Yx, List.length_append, List.flatMap_cons, List.flatMap_nil, List.length_nil]; omega
theorem Ge (n : Int) : ∀ c ∈ V4 n, 0 ≤ c ∧ c ≤ 255 := by
  intro c hc
  unfold V4 at hc; split at hc
  · simp at hc
  · exact bounds_u8 (I4 n (by omega) c hc)
theorem Hg (s : ByteArray) : ∀ c ∈ Bi s, 0 ≤ c ∧ c ≤ 255 := by
  intro c hc
  unfold Bi at hc; split at hc
  · simp at hc
  · rcases List.mem_append.1 hc with h | h
    · exact bounds_u8 (I4 _ (by omega) c h)
    · exact bounds_u8 (ND s c h)
theorem Cy (x : Qu) : ∀ c ∈ Yx x, 0 ≤ c ∧ c ≤ 255 := by
  have fm : ∀ {α : Type} (f : α → List Int) (l : List α), (∀ t, ∀ c ∈ f t, 0 ≤ c ∧ c ≤ 255) → ∀ c ∈ l.flatMap f, 0 ≤ c ∧ c ≤ 255 := by
    intro α f l h c hc
    obtain ⟨t, _, ht⟩ := List.mem_flatMap.1 hc
    exact h t c ht
  have ap : ∀ {a b : List Int}, (∀ c ∈ a, 0 ≤ c ∧ c ≤ 255) → (∀ c ∈ b, 0 ≤ c ∧ c ≤ 255) → ∀ c ∈ a ++ b, 0 ≤ c ∧ c ≤ 255 := by
    intro a b ha hb c hc
    rcases List.mem_append.1 hc with h | h
    · exact ha c h
    · exact hb c h
  have e := fun l => fm V4 l Ge
  have t := fun l => fm Bi l Hg
  have it : ∀ l, ∀ c ∈ List.flatMap MZ l, 0 ≤ c ∧ c ≤ 255 := fun l => fm MZ l fun t => ap (Hg _) (Ge _)
  have w : ∀ c ∈ Ua 8 x.fParams.fSeed, 0 ≤ c ∧ c ≤ 255 := fun c hc => bounds_u8 (M8 8 _ c hc)
  unfold Yx I8 I7
  exact ap (ap (ap (ap (ap (ap (ap (ap (ap (ap (ap (ap (ap (by simp) (e _)) (t _)) (e _)) (t _)) (e _)) w) (e _)) (it _)) (t _)) (e _)) (t _)) (e _)) (t _)
def Ib (x : Qu) : List Int × Int := if KZ x ≠ 0 then ([], KZ x) else (XB 79 (Yx x), 0)
theorem U7 (x : Qu) : KW x (Ib x) := by
  unfold KW Yf
  simp only [jn]
  have enc_no : KZ x ≠ 0 → Ib x = ([], KZ x) := fun h => by unfold Ib; rw [if_pos h]
  refine ⟨KZ x, Jf x, fun h => enc_no (by simpa using h), fun h => ?_⟩
  have h0 : KZ x = 0 := by simpa using h
  have F := OK h0
  have lA := N0 F
  have lB := N1 F
  have lE := N2 F
  have nl : x.fNames.length ≤ 100000 := by have := F.names; omega
  have hA : (I7 x).length ≤ 1000 := lA
  unfold I7 at hA
  simp only [List.length_append, ZL] at hA
  refine ⟨_, KY [] _ (by simp) (by simp), _, Vw _ _ (by simp only [List.length_append]; omega) (by simp), _, KY _ _ (by simp only [List.length_append]; omega) (by simp), _, Vw _ _ (by simp only [List.length_append]; omega) nl, _, KY _ _ (by simp only [List.length_append]; omega) (by simp), _, Du _, by simp only [List.length_append, ZL]; omega, _, KY (I7 x) _ (by omega) (by simp), ?_⟩
  have hB : (I8 x).length ≤ 5000 := lB
  unfold I8 at hB
  rw [List.length_append] at hB
  refine Kc (I := fun k s => ∃ j : Nat, s.1 = (j : Int) ∧ j ≤ x.fItems.length ∧ k = x.fItems.length - j ∧ s.2 = (I7 x ++ [(x.fItems.length : Int)].flatMap V4) ++ (x.fItems.take j).flatMap MZ) ?_ (k := x.fItems.length) ⟨0, rfl, by omega, by omega, by simp⟩
  rintro k ⟨i, c⟩ ⟨j, hj, hj1, hk, hc⟩ X hX
  simp only at hj hc ⊢
  subst hj
  refine ⟨fun h => ?_, fun h => ?_⟩
  · have hj2 : j < x.fItems.length := by simp at h; omega
    obtain ⟨t, ht, hg⟩ := Kl (l := x.fItems) (n := (j : Int)) (by omega) (by omega)
    have hcl : c.length ≤ 10000 := by
      have k3 := I9 (f := MZ) (m := 50) (l := x.fItems.take j) (fun t ht => Mc F t (List.mem_of_mem_take ht))
      have k4 := F.items
      rw [List.length_take] at k3
      rw [hc, List.length_append]; omega
    have hit := F.items
    have hti := Mc F t (List.mem_of_getElem? hg)
    have htx := U6 t.fKey
    refine ⟨t, ht, _, Vw c _ (by omega) (by simp), _, KY _ _ (by simp only [List.length_append, List.flatMap_cons, List.flatMap_nil, List.length_nil]; omega) (by simp), ?_⟩
    rw [Zr (by omega)]
    refine hX (x.fItems.length - (j + 1)) _ (by omega) ⟨j + 1, by simp, by omega, rfl, ?_⟩
    have e : x.fItems.take (j + 1) = x.fItems.take j ++ [t] := by rw [List.take_add_one]; simp at hg; simp [hg]
    rw [e, hc]; simp [MZ]
  · have hj2 : j = x.fItems.length := by simp at h; omega
    subst hj2
    rw [List.take_length] at hc
    change c = I8 x at hc
    subst hc
    have hE : (Yx x).length ≤ 300000 := lE
    unfold Yx at hE
    simp only [List.length_append] at hE
    refine ⟨_, Vw (I8 x) _ (by omega) (by simp), _, KY _ _ (by simp only [List.length_append]; omega) (by simp), _, Vw _ _ (by simp only [List.length_append]; omega) (by simp), _, KY _ _ (by simp only [List.length_append]; omega) (by simp), _, Vw _ _ (by simp only [List.length_append]; omega) (by simp), _, I6 79 (Yx x) (by decide) (Cy x), ?_⟩
    unfold Ib I3
    rw [if_neg (by simp [h0]), if_neg (by omega)]
end Go.Proofs.YthlaenafkihjiaaGreat
namespace Go.Proofs.YthlaenafkihjiaaGreat
open Go.RowKit
set_option linter.unusedVariables false
set_option linter.unusedSimpArgs false
def Md {α : Type} (st : Qf) (r : α × Int × Int) (z : α) : α × Qf :=
  if st.fbad = true ∨ r.2.2 ≠ 0 then (z, ⟨st.fb, true⟩) else (r.1, ⟨st.fb.drop r.2.1.toNat, false⟩)
theorem Me (st : Qf) (k e : Int) (h : e = 0 → 0 ≤ k ∧ k ≤ st.fb.length) :
    ZI st k e (if st.fbad = true ∨ e ≠ 0 then (false, ⟨st.fb, true⟩) else (true, ⟨st.fb.drop k.toNat, false⟩)) := by
  unfold ZI Vr
  rcases st with ⟨b, bad⟩
  cases bad
  · by_cases he : e = 0
    · subst he; simpa using h rfl
    · simp [he]
  · simp
theorem Pw {l : List Int} {n k : Int} (h : EY l = (n, k, 0)) : 1 ≤ k ∧ k ≤ l.length := by
  unfold EY at h
  by_cases h8 : l.length < 8
  · rw [if_pos h8] at h; simp at h
  · rw [if_neg h8] at h; simp only [Prod.mk.injEq] at h; omega
theorem Px {l : List Int} (hw : ∀ n ∈ l, (Lit.int .u8 n).wf = true) {s : ByteArray} {k : Int} (h : EZ l = (s, k, 0)) : 1 ≤ k ∧ k ≤ l.length ∧ s.size ≤ 65536 := by
  obtain ⟨n, j, e, hd⟩ : ∃ n j e, Uc l = (n, j, e) := ⟨_, _, _, rfl⟩
  unfold EZ EE at h
  rw [hd] at h
  simp only at h
  by_cases h0 : e ≠ 0
  · rw [if_pos h0] at h; simp only [Prod.mk.injEq] at h; omega
  have h0' : e = 0 := by simpa using h0
  subst h0'
  have hk := Fc hw hd
  rw [if_neg h0] at h
  by_cases h1 : n > 65536
  · rw [if_pos h1] at h; simp at h
  rw [if_neg h1] at h
  by_cases h2 : (l.length : Int) - j < n
  · rw [if_pos h2] at h; simp at h
  rw [if_neg h2] at h
  simp only [Prod.mk.injEq] at h
  obtain ⟨hs, hk2, _⟩ := h
  refine ⟨by omega, by omega, ?_⟩
  rw [← hs, Vv, List.length_take]; omega
theorem f_num (st : Qf) (B : CM st.fb) : QG st (Md st (Uc st.fb) 0) := by
  unfold QG JK
  obtain ⟨n, k, e, hd⟩ : ∃ n k e, Uc st.fb = (n, k, e) := ⟨_, _, _, rfl⟩
  refine ⟨Uc st.fb, YV _ B, _, Me st _ _ ?_, ?_⟩
  · rw [hd]; intro he; simp only at he; subst he; have := Fc B.2 hd; simp only; omega
  · rw [hd]; unfold Md; simp only
    by_cases hc : st.fbad = true ∨ e ≠ 0
    · rw [if_pos hc, if_pos hc]; simp
    · rw [if_neg hc, if_neg hc]; simp
theorem f_wrd (st : Qf) (B : CM st.fb) : ZK st (Md st (EY st.fb) 0) := by
  unfold ZK Vu
  obtain ⟨n, k, e, hd⟩ : ∃ n k e, EY st.fb = (n, k, e) := ⟨_, _, _, rfl⟩
  refine ⟨EY st.fb, Dw _ B, _, Me st _ _ ?_, ?_⟩
  · rw [hd]; intro he; simp only at he; subst he; have := Pw hd; simp only; omega
  · rw [hd]; unfold Md; simp only
    by_cases hc : st.fbad = true ∨ e ≠ 0
    · rw [if_pos hc, if_pos hc]; simp
    · rw [if_neg hc, if_neg hc]; simp
theorem f_txt (st : Qf) (B : CM st.fb) : Zb st (Md st (EZ st.fb) ⟨#[]⟩) := by
  unfold Zb Vt
  obtain ⟨n, k, e, hd⟩ : ∃ n k e, EZ st.fb = (n, k, e) := ⟨_, _, _, rfl⟩
  refine ⟨EZ st.fb, Dx _ B, _, Me st _ _ ?_, ?_⟩
  · rw [hd]; intro he; simp only at he; subst he; have := Px B.2 hd; simp only; omega
  · rw [hd]; unfold Md; simp only
    by_cases hc : st.fbad = true ∨ e ≠ 0
    · rw [if_pos hc, if_pos hc]; simp
    · rw [if_neg hc, if_neg hc]; simp
end Go.Proofs.YthlaenafkihjiaaGreat
namespace Go.Proofs.YthlaenafkihjiaaGreat
open Go.RowKit
set_option linter.unusedVariables false
set_option linter.unusedSimpArgs false
theorem N3 {n : Int} (h : 0 ≤ n ∧ n ≤ 4611686018427387904) : V4 n = XR n := by unfold V4; rw [if_neg (by omega)]
theorem r1 (n : Int) (h : 0 ≤ n ∧ n ≤ 4611686018427387904) : Z8 n (V4 n) := by rw [N3 h]; exact Lj n h
end Go.Proofs.YthlaenafkihjiaaGreat
namespace Go.Proofs.YthlaenafkihjiaaGreat
open Go.RowKit
set_option linter.unusedVariables false
set_option linter.unusedSimpArgs false
theorem CM.right {l a r : List Int} (e : l = a ++ r) (B : CM l) : CM r := by
  have := B.drop a.length
  rwa [e, List.drop_left] at this
theorem V5 {l r : List Int} {n : Int} (e : l = V4 n ++ r) (h : 0 ≤ n ∧ n ≤ 4611686018427387904) (B : CM l) : QG ⟨l, false⟩ (n, ⟨r, false⟩) := by
  have k : QG ⟨l, false⟩ (Md ⟨l, false⟩ (Uc l) 0) := f_num ⟨l, false⟩ B
  have h2 : Md ⟨l, false⟩ (Uc l) (0 : Int) = (n, ⟨r, false⟩) := by
    rw [e, N3 h]; unfold Md; rw [Ga n h.1 h.2 r]; simp
  rwa [h2] at k
theorem OL (s : ByteArray) (hs : s.size ≤ 65536) (rest : List Int) : EZ (Bi s ++ rest) = (s, ((Bi s).length : Int), 0) := by
  have hL : Bi s = XR s.size ++ sI s := by unfold Bi; rw [if_neg (by omega)]
  have hl := VV s
  unfold EZ
  rw [hL, List.append_assoc, Ga _ (by omega) (by omega)]
  unfold EE
  simp only [Int.toNat_natCast]
  rw [if_neg (by simp), if_neg (by omega), if_neg (by simp only [List.length_append, hl]; omega), List.drop_left, show s.size = (sI s).length from hl.symm, List.take_left, US, List.length_append]
  simp
theorem Ae {l r : List Int} {s : ByteArray} (e : l = Bi s ++ r) (h : s.size ≤ 65536) (B : CM l) : Zb ⟨l, false⟩ (s, ⟨r, false⟩) := by
  have k : Zb ⟨l, false⟩ (Md ⟨l, false⟩ (EZ l) ⟨#[]⟩) := f_txt ⟨l, false⟩ B
  have h2 : Md ⟨l, false⟩ (EZ l) (⟨#[]⟩ : ByteArray) = (s, ⟨r, false⟩) := by
    rw [e]; unfold Md; rw [OL s h r]; simp
  rwa [h2] at k
theorem Py {l r : List Int} {z : Int} (e : l = Ua 8 z ++ r) (h : 0 ≤ z ∧ z ≤ 18446744073709551615) (B : CM l) : ZK ⟨l, false⟩ (z, ⟨r, false⟩) := by
  have k : ZK ⟨l, false⟩ (Md ⟨l, false⟩ (EY l) 0) := f_wrd ⟨l, false⟩ B
  have hw : EY l = (z, 8, 0) := by
    have h8 := ZL 8 z
    rw [e]; unfold EY
    rw [if_neg (by simp only [List.length_append, h8]; omega), List.take_append_of_le_length (by omega), List.take_of_length_le (by omega), I5 8 z h.1 (by simp; omega)]
  have h2 : Md ⟨l, false⟩ (EY l) (0 : Int) = (z, ⟨r, false⟩) := by
    rw [hw, e]; unfold Md
    have h8 := ZL 8 z
    have d8 : List.drop 8 (Ua 8 z ++ r) = r := by
      have := List.drop_left (l₁ := Ua 8 z) (l₂ := r)
      rwa [h8] at this
    simp [d8]
  rwa [h2] at k
def Cz (x : Qu) : Qu := ⟨x.fKind, x.fName, x.fOther, x.fNames, x.fParams, x.fItems, sI (strOfNums x.fCoins), x.fExpected, x.fSource, x.fHandle, x.fIndex, x.fCursor, x.fCount, x.fQuery, sI (strOfNums x.fData)⟩
theorem Pz (x : Qu) : Yx (Cz x) = Yx x := by
  have e1 : strOfNums (Cz x).fCoins = strOfNums x.fCoins := US _
  have e2 : strOfNums (Cz x).fData = strOfNums x.fData := US _
  unfold Yx
  rw [e1, e2]
  rfl
theorem PC (x : Qu) : KZ (Cz x) = KZ x := by
  have hz : ∀ f, A9 (YW (Cz x)) f = A9 (YW x) f := by
    intro f
    unfold A9
    split <;> first | rfl | simp [YW, Cz, VV, Vv]
  have hc : Ze (Cz x) = Ze x := by
    funext f
    unfold Ze
    split <;> first | rfl | simp [Cz, VV, Vv]
  have hk : (YW (Cz x)).kind = (YW x).kind := rfl
  unfold KZ Eb
  simp only [hz, hc, hk]
theorem PD (x : Qu) (h : (Yx x).length ≤ 1048576) : CM (XB 79 (Yx x)) := by
  have hl := Ad 79 (Yx x)
  have h4 := ZL 4 (Hd (Jo 79 (Yx x)))
  have h9 := Yu ((Yx x).length : Int)
  have hf : XB 79 (Yx x) = Jo 79 (Yx x) ++ Ua 4 (Hd (Jo 79 (Yx x))) := by unfold XB; rw [if_neg (by omega)]
  rw [hf]
  refine CM.of (by simp only [List.length_append]; omega) fun c hc => ?_
  rcases List.mem_append.1 hc with h | h
  · exact Hf (by decide) (Cy x) c h
  · exact bounds_u8 (M8 4 _ c h)
theorem Mf (x : Qu) (h : KZ x = 0) (hz : 0 ≤ x.fParams.fSeed ∧ x.fParams.fSeed ≤ 18446744073709551615) : JH (XB 79 (Yx x)) (Cz x, 0) := by
  have F := OK h
  have k0 := F.kind; have k1 := F.pk; have k2 := F.ps; have k3 := F.pd; have k4 := F.qc; have k5 := F.qn; have k6 := F.qd; have k7 := F.qk; have k8 := F.ex; have k9 := F.so; have k10 := F.ha; have k11 := F.ix; have k12 := F.cu; have k13 := F.co
  have j1 := F.names; have j2 := F.items; have j3 := F.coins; have j4 := F.data
  have n1 := F.name; have n2 := F.other; have n3 := F.qs
  have s1 : (strOfNums x.fCoins).size ≤ 65536 := by rw [Vv]; omega
  have s2 : (strOfNums x.fData).size ≤ 65536 := by rw [Vv]; omega
  have lb := N2 F
  have BF := PD x (by omega)
  have hu : PL (XB 79 (Yx x)) = (79, Yx x, ((XB 79 (Yx x)).length : Int), 0) := by
    have := Nx 79 (Yx x) [] (by omega)
    rwa [List.append_nil] at this
  have BB : CM (Yx x) := CM.of (by omega) (Cy x)
  unfold JH Yg
  simp only [jn]
  refine ⟨PL _, Gc _ BF, ?_⟩
  rw [hu]
  simp only
  refine ⟨fun c => by simp at c, fun _ => ?_⟩
  obtain ⟨r23, e23⟩ : ∃ r, r = Bi (strOfNums x.fData) ++ ([] : List Int) := ⟨_, rfl⟩
  obtain ⟨r22, e22⟩ : ∃ r, r = V4 x.fQuery.fDen ++ r23 := ⟨_, rfl⟩
  obtain ⟨r21, e21⟩ : ∃ r, r = V4 x.fQuery.fNum ++ r22 := ⟨_, rfl⟩
  obtain ⟨r20, e20⟩ : ∃ r, r = V4 x.fQuery.fCount ++ r21 := ⟨_, rfl⟩
  obtain ⟨r19, e19⟩ : ∃ r, r = Bi x.fQuery.fKey ++ r20 := ⟨_, rfl⟩
  obtain ⟨r18, e18⟩ : ∃ r, r = V4 x.fQuery.fKind ++ r19 := ⟨_, rfl⟩
  obtain ⟨r17, e17⟩ : ∃ r, r = V4 x.fCount ++ r18 := ⟨_, rfl⟩
  obtain ⟨r16, e16⟩ : ∃ r, r = V4 x.fCursor ++ r17 := ⟨_, rfl⟩
  obtain ⟨r15, e15⟩ : ∃ r, r = V4 x.fIndex ++ r16 := ⟨_, rfl⟩
  obtain ⟨r14, e14⟩ : ∃ r, r = V4 x.fHandle ++ r15 := ⟨_, rfl⟩
  obtain ⟨r13, e13⟩ : ∃ r, r = V4 x.fSource ++ r14 := ⟨_, rfl⟩
  obtain ⟨r12, e12⟩ : ∃ r, r = V4 x.fExpected ++ r13 := ⟨_, rfl⟩
  obtain ⟨r11, e11⟩ : ∃ r, r = Bi (strOfNums x.fCoins) ++ r12 := ⟨_, rfl⟩
  obtain ⟨r10, e10⟩ : ∃ r, r = x.fItems.flatMap MZ ++ r11 := ⟨_, rfl⟩
  obtain ⟨r9, e9⟩ : ∃ r, r = V4 (x.fItems.length : Int) ++ r10 := ⟨_, rfl⟩
  obtain ⟨r8, e8⟩ : ∃ r, r = Ua 8 x.fParams.fSeed ++ r9 := ⟨_, rfl⟩
  obtain ⟨r7, e7⟩ : ∃ r, r = V4 x.fParams.fDepth ++ r8 := ⟨_, rfl⟩
  obtain ⟨r6, e6⟩ : ∃ r, r = V4 x.fParams.fSize ++ r7 := ⟨_, rfl⟩
  obtain ⟨r5, e5⟩ : ∃ r, r = V4 x.fParams.fKind ++ r6 := ⟨_, rfl⟩
  obtain ⟨r4, e4⟩ : ∃ r, r = x.fNames.flatMap Bi ++ r5 := ⟨_, rfl⟩
  obtain ⟨r3, e3⟩ : ∃ r, r = V4 (x.fNames.length : Int) ++ r4 := ⟨_, rfl⟩
  obtain ⟨r2, e2⟩ : ∃ r, r = Bi x.fOther ++ r3 := ⟨_, rfl⟩
  obtain ⟨r1, e1⟩ : ∃ r, r = Bi x.fName ++ r2 := ⟨_, rfl⟩
  have e0 : Yx x = V4 x.fKind ++ r1 := by
    rw [e1, e2, e3, e4, e5, e6, e7, e8, e9, e10, e11, e12, e13, e14, e15, e16, e17, e18, e19, e20, e21, e22, e23]
    simp only [Yx, I8, I7, List.flatMap_cons, List.flatMap_nil, List.append_assoc, List.nil_append, List.append_nil]
  have B1 := BB.right e0
  have B2 := B1.right e1
  have B3 := B2.right e2
  have B4 := B3.right e3
  have B5 := B4.right e4
  have B6 := B5.right e5
  have B7 := B6.right e6
  have B8 := B7.right e7
  have B9 := B8.right e8
  have B10 := B9.right e9
  have B11 := B10.right e10
  have B12 := B11.right e11
  have B13 := B12.right e12
  have B14 := B13.right e13
  have B15 := B14.right e14
  have B16 := B15.right e15
  have B17 := B16.right e16
  have B18 := B17.right e17
  have B19 := B18.right e18
  have B20 := B19.right e19
  have B21 := B20.right e20
  have B22 := B21.right e21
  have B23 := B22.right e22
  refine ⟨_, V5 e0 (by omega) BB, _, Ae e1 (by omega) B1, _, Ae e2 (by omega) B2, _, V5 e3 (by omega) B3, ?_⟩
  refine Kc (I := fun k s => ∃ j : Nat, j ≤ x.fNames.length ∧ k = x.fNames.length - j ∧ s.1 = ((x.fNames.length - j : Nat) : Int) ∧ s.2.1 = (x.fNames.drop j).flatMap Bi ++ r5 ∧ s.2.2.1 = false ∧ s.2.2.2 = x.fNames.take j) ?_ (k := x.fNames.length) ⟨0, by omega, rfl, rfl, by simpa using e4, rfl, rfl⟩
  rintro k ⟨m, q, bad, nm⟩ ⟨j, hj, hk, hm, hq, hb, hn⟩ X hX
  simp only at hm hq hb hn ⊢
  subst hm; subst hb; subst hn
  have Bq : CM q := by
    have h1 : r4 = (x.fNames.take j).flatMap Bi ++ q := by rw [hq, ← List.append_assoc, ← List.flatMap_append, List.take_append_drop]; exact e4
    exact B4.right h1
  refine ⟨fun c => ?_, fun c => ?_⟩
  · have hj2 : j < x.fNames.length := by simp at c; omega
    have hdr : x.fNames.drop j = x.fNames[j] :: x.fNames.drop (j + 1) := List.drop_eq_getElem_cons hj2
    have hts := F.each x.fNames[j] (List.getElem_mem hj2)
    have eq : q = Bi x.fNames[j] ++ ((x.fNames.drop (j + 1)).flatMap Bi ++ r5) := by rw [hq, hdr, List.flatMap_cons, List.append_assoc]
    refine ⟨_, Ae eq (by omega) Bq, by simp; omega, ?_⟩
    refine hX (x.fNames.length - (j + 1)) _ (by omega) ⟨j + 1, by omega, rfl, ?_, rfl, rfl, ?_⟩
    · simp only; rw [Zr (by omega)]; omega
    · simp only; rw [List.take_succ_eq_append_getElem hj2]
  have hj2 : j = x.fNames.length := by simp at c; omega
  subst hj2
  rw [List.drop_length, List.flatMap_nil, List.nil_append] at hq
  subst hq
  rw [List.take_length]
  refine ⟨_, V5 e5 (by omega) B5, _, V5 e6 (by omega) B6, _, V5 e7 (by omega) B7, _, Py e8 hz B8, _, V5 e9 (by omega) B9, ?_⟩
  refine Kc (I := fun k s => ∃ j : Nat, j ≤ x.fItems.length ∧ k = x.fItems.length - j ∧ s.1 = ((x.fItems.length - j : Nat) : Int) ∧ s.2.1 = (x.fItems.drop j).flatMap MZ ++ r11 ∧ s.2.2.1 = false ∧ s.2.2.2.1 = x.fNames ∧ s.2.2.2.2 = x.fItems.take j) ?_ (k := x.fItems.length) ⟨0, by omega, rfl, rfl, by simpa using e10, rfl, rfl, rfl⟩
  rintro k ⟨m, q, bad, nm, it⟩ ⟨j, hj, hk, hm, hq, hb, hn, hi⟩ X hX
  simp only at hm hq hb hn hi ⊢
  subst hm; subst hb; subst hn; subst hi
  have Bq : CM q := by
    have h1 : r10 = (x.fItems.take j).flatMap MZ ++ q := by rw [hq, ← List.append_assoc, ← List.flatMap_append, List.take_append_drop]; exact e10
    exact B10.right h1
  refine ⟨fun c => ?_, fun c => ?_⟩
  · have hj2 : j < x.fItems.length := by simp at c; omega
    have hdr : x.fItems.drop j = x.fItems[j] :: x.fItems.drop (j + 1) := List.drop_eq_getElem_cons hj2
    have hti := F.item x.fItems[j] (List.getElem_mem hj2)
    have eq : q = Bi x.fItems[j].fKey ++ (V4 x.fItems[j].fWeight ++ ((x.fItems.drop (j + 1)).flatMap MZ ++ r11)) := by rw [hq, hdr, List.flatMap_cons]; simp only [MZ, List.append_assoc]
    refine ⟨_, Ae eq (by omega) Bq, _, V5 rfl (by omega) (Bq.right eq), by simp; omega, ?_⟩
    refine hX (x.fItems.length - (j + 1)) _ (by omega) ⟨j + 1, by omega, rfl, ?_, rfl, rfl, rfl, ?_⟩
    · simp only; rw [Zr (by omega)]; omega
    · simp only; rw [List.take_succ_eq_append_getElem hj2]
  have hj2 : j = x.fItems.length := by simp at c; omega
  subst hj2
  rw [List.drop_length, List.flatMap_nil, List.nil_append] at hq
  subst hq
  rw [List.take_length]
  refine ⟨_, Ae e11 (by omega) B11, (by simp only; omega), _, V5 e12 (by omega) B12, _, V5 e13 (by omega) B13, _, V5 e14 (by omega) B14, _, V5 e15 (by omega) B15, _, V5 e16 (by omega) B16, _, V5 e17 (by omega) B17, _, V5 e18 (by omega) B18, _, Ae e19 (by omega) B19, _, V5 e20 (by omega) B20, _, V5 e21 (by omega) B21, _, V5 e22 (by omega) B22, _, Ae e23 (by omega) B23, (by simp only; omega), Ib (Cz x), U7 (Cz x), fun c => ?_, fun c => ?_⟩
  · exfalso
    have hv : KZ (Cz x) = 0 := by rw [PC, h]
    have hE : Ib (Cz x) = (XB 79 (Yx x), 0) := by unfold Ib; rw [if_neg (by simp [hv]), Pz]
    rw [hE] at c
    simp at c
  · rfl
end Go.Proofs.YthlaenafkihjiaaGreat
namespace Go.Proofs.YthlaenafkihjiaaGreat
open Go.RowKit
set_option linter.unusedVariables false
set_option linter.unusedSimpArgs false
def PE : Qu := Qu.mk (4) (ByteArray.empty) (ByteArray.empty) ([] : (List ByteArray)) (Qn.mk (0) (0) (0) (0)) ([] : (List Qb)) ([] : (List Int)) (0) (0) (0) (0) (0) (0) (Qz.mk (0) (ByteArray.empty) (0) (0) (0)) ([] : (List Int))
def lsN : Qu := Qu.mk (4) ((⟨#[97]⟩ : ByteArray)) (ByteArray.empty) ([] : (List ByteArray)) (Qn.mk (0) (0) (0) (0)) ([] : (List Qb)) ([] : (List Int)) (0) (0) (0) (0) (0) (0) (Qz.mk (0) (ByteArray.empty) (0) (0) (0)) ([] : (List Int))
theorem PO (C : Nat → Int) : Ui (Ub 4 C) = 0 := rfl
theorem OM : KZ PE = 0 := by
  have e : (ByteArray.empty).toList = [] := Yh
  unfold KZ Eb
  rw [if_neg (by unfold K4 YW PE; simp), if_neg (by show ¬ Ui (Ub 4 _) ≠ 0; rw [PO]; simp), if_pos]
  simp [List.range, List.range.loop, A9, YW, PE, e]
theorem Rr : KZ lsN = 18 := by
  unfold KZ Eb
  rw [if_neg (by unfold K4 YW lsN; simp), if_neg (by show ¬ Ui (Ub 4 _) ≠ 0; rw [PO]; simp), if_neg]
  simp only [List.all_eq_true, List.mem_range, Bool.or_eq_true]
  intro h
  rcases h 0 (by decide) with h | h
  · revert h; show ZN 4 0 = true → False; decide
  · simp [A9, YW, lsN] at h
theorem PF : Y5 true := by
  unfold Y5 Uw
  have hE : Ib PE = (XB 79 (Yx PE), 0) := by unfold Ib; rw [if_neg (by simp [OM])]
  refine ⟨(XB 79 (Yx PE), 0), hE ▸ U7 PE, (Cz PE, 0), Mf PE OM (by decide), 18, fun _ => Rr ▸ Jf lsN, true, fun _ => ?_, false, fun _ => ?_, ?_⟩
  · show true = Ns 4; decide
  · show false = Ns 6; decide
  · rfl
end Go.Proofs.YthlaenafkihjiaaGreat
namespace Go.Proofs.YthlaenafkihjiaaGreat
open Go.RowKit
set_option linter.unusedVariables false
set_option linter.unusedSimpArgs false
theorem WL (l : List Int) (i : Int) (hl : l.length ≤ 4611686018427387904) (h0 : 0 ≤ i) (h1 : i ≤ 1000) : ∃ v, VW l i v ∧ 0 ≤ v ∧ v ≤ 66600 := by
  unfold VW DY
  simp only [MU]
  by_cases hz : l.length = 0
  · refine ⟨i % 65536, ⟨fun _ => rfl, fun h => ?_⟩, by omega, by omega⟩
    simp [hz] at h
  · have hp : (0 : Int) < l.length := by omega
    have e : i.tmod (l.length : Int) = i % l.length := KC h0
    have e1 : 0 ≤ i % (l.length : Int) := Int.emod_nonneg _ (by omega)
    have e2 : i % (l.length : Int) < l.length := Int.emod_lt_of_pos _ hp
    obtain ⟨v, hv, _⟩ := Kl (l := l) (n := i % l.length) e1 e2
    have t1 : i.tdiv (l.length : Int) = i / l.length := Int.tdiv_eq_ediv_of_nonneg h0
    have t2 : 0 ≤ i / (l.length : Int) := Int.ediv_nonneg h0 (by omega)
    have t3 : i / (l.length : Int) ≤ i := Int.ediv_le_self _ h0
    have w1 : IntKind.i64.wrap (i / (l.length : Int)) = i / l.length := Zr (by omega)
    have w2 : IntKind.i64.wrap (v % 65536 + i / (l.length : Int)) = v % 65536 + i / l.length := Zr (by omega)
    refine ⟨v % 65536 + i / l.length, ⟨fun h => ?_, fun _ => ⟨by omega, v, by rw [e]; exact hv, by omega, by rw [t1, w1, w2]⟩⟩, by omega, by omega⟩
    simp at h; exact absurd h (by intro e; rw [e] at hz; exact hz rfl)
theorem Uk (a : Int) : ∃ s, ZC a s ∧ BY s = true := by
  unfold ZC AR
  rw [G7, KC (by omega)]
  have h3 : a % 16777216 % 3 = 0 ∨ a % 16777216 % 3 = 1 ∨ a % 16777216 % 3 = 2 := by omega
  rcases h3 with h | h | h <;> rw [h]
  · exact ⟨⟨#[97]⟩, ⟨_, ⟨by decide, rfl⟩, rfl⟩, by decide⟩
  · exact ⟨⟨#[98]⟩, ⟨_, ⟨by decide, rfl⟩, rfl⟩, by decide⟩
  · exact ⟨⟨#[99]⟩, ⟨_, ⟨by decide, rfl⟩, rfl⟩, by decide⟩
def GK (p : Qn) : Prop :=
  (p.fKind = 1 ∧ p.fSize = 0 ∧ p.fDepth = 0 ∧ p.fSeed = 0) ∨ (p.fKind = 2 ∧ 1 ≤ p.fSize ∧ p.fSize ≤ 4 ∧ 1 ≤ p.fDepth ∧ p.fDepth ≤ 2 ∧ 0 ≤ p.fSeed ∧ p.fSeed ≤ 3)
  ∨ (p.fKind = 3 ∧ 2 ≤ p.fSize ∧ p.fSize ≤ 3 ∧ p.fDepth = 0 ∧ 0 ≤ p.fSeed ∧ p.fSeed ≤ 3) ∨ ((p.fKind = 4 ∨ p.fKind = 5) ∧ 1 ≤ p.fSize ∧ p.fSize ≤ 4 ∧ p.fDepth = 0 ∧ p.fSeed = 0)
  ∨ (p.fKind = 6 ∧ (p.fSize = 2 ∨ p.fSize = 4) ∧ p.fDepth = 0 ∧ p.fSeed = 0)
theorem Nz {p : Qn} (h : GK p) : Wr p.fKind p.fSize p.fDepth p.fSeed = 0 := by
  unfold GK at h; unfold Wr
  grind
theorem C0 (a : Int) : ∃ p, VX a p ∧ GK p := by
  unfold VX Uo
  simp only [bA1, bA3]
  generalize QE .i64 a 3 = s3; generalize QE .i64 a 4 = s4; generalize QE .i64 a 8 = s8
  have w1 : IntKind.i64.wrap (1 + s4 % 4) = 1 + s4 % 4 := Zr (by omega)
  have w2 : IntKind.i64.wrap (1 + s3 % 2) = 1 + s3 % 2 := Zr (by omega)
  have w3 : IntKind.u64.wrap (s8 % 4) = s8 % 4 := An (by omega)
  have w4 : IntKind.i64.wrap (2 + s3 % 2) = 2 + s3 % 2 := Zr (by omega)
  have w5 : IntKind.i64.wrap (1 + s3 % 4) = 1 + s3 % 4 := Zr (by omega)
  have w6 : IntKind.i64.wrap (2 * (s3 % 2)) = 2 * (s3 % 2) := Zr (by omega)
  have w7 : IntKind.i64.wrap (2 + 2 * (s3 % 2)) = 2 + 2 * (s3 % 2) := Zr (by omega)
  simp only [w1, w2, w3, w4, w5, w6, w7]
  generalize a.tmod 6 = k
  by_cases k0 : k = 0
  · refine ⟨⟨1, 0, 0, 0⟩, ?_, by simp [GK]⟩; simp [k0]
  by_cases k1 : k = 1
  · refine ⟨⟨2, 1 + s4 % 4, 1 + s3 % 2, s8 % 4⟩, ?_, by simp [GK]; omega⟩; simp [k1]
  by_cases k2 : k = 2
  · refine ⟨⟨3, 2 + s3 % 2, 0, s8 % 4⟩, ?_, by simp [GK]; omega⟩; simp [k2]
  by_cases k3 : k = 3
  · refine ⟨⟨4, 1 + s3 % 4, 0, 0⟩, ?_, by simp [GK]; omega⟩; simp [k3]
  by_cases k4 : k = 4
  · refine ⟨⟨5, 1 + s3 % 4, 0, 0⟩, ?_, by simp [GK]; omega⟩; simp [k4]
  refine ⟨⟨6, 2 + 2 * (s3 % 2), 0, 0⟩, ?_, by simp [GK]; omega⟩
  simp [k0, k1, k2, k3, k4]
theorem CB (a : Int) : ∃ s, Xn a s ∧ 1 ≤ s.size ∧ s.size ≤ 32 := by
  unfold Xn Cb
  simp only [bA15, bA255, List.length_cons, List.length_nil]
  generalize hs : QE .i64 a 8 % 16 = k
  by_cases hk : k = 15
  · refine ⟨_, ⟨fun _ => rfl, fun h => by simp [hk] at h⟩, ?_⟩
    rw [Vv]; simp
  · have e : (a % 256).tmod ((0 + 1 + 1 + 1 + 1 + 1 + 1 + 1 + 1 + 1 + 1 + 1 + 1 : Nat) : Int) = a % 256 % 12 := KC (by omega)
    rw [e]
    have hall : ∀ x ∈ ([⟨#[97]⟩, ⟨#[98]⟩, ⟨#[99]⟩, ⟨#[100]⟩, ⟨#[101]⟩, ⟨#[102]⟩, ⟨#[97, 97]⟩, ⟨#[98, 32, 99]⟩, ⟨#[37, 54, 49]⟩, ⟨#[65, 58, 49]⟩, ⟨#[0]⟩, ⟨#[122, 47, 255]⟩] : List ByteArray), 1 ≤ x.size ∧ x.size ≤ 32 := by decide
    obtain ⟨x, hx, hg⟩ := Kl (l := ([⟨#[97]⟩, ⟨#[98]⟩, ⟨#[99]⟩, ⟨#[100]⟩, ⟨#[101]⟩, ⟨#[102]⟩, ⟨#[97, 97]⟩, ⟨#[98, 32, 99]⟩, ⟨#[37, 54, 49]⟩, ⟨#[65, 58, 49]⟩, ⟨#[0]⟩, ⟨#[122, 47, 255]⟩] : List ByteArray)) (n := a % 256 % 12) (by omega) (by simp; omega)
    exact ⟨x, ⟨fun h => by simp at h; exact absurd h hk, fun _ => ⟨by decide, x, hx, rfl⟩⟩, hall x (List.mem_of_getElem? hg)⟩
theorem Dz (a : Int) : ∃ q, VE a q ∧ Ux q.fKind q.fKey q.fCount q.fNum q.fDen = 0 := by
  unfold VE UY
  have z : (ByteArray.empty).toList = [] := Yh
  obtain ⟨s, hs, hs1, hs2⟩ := CB (QE .i64 a 3)
  simp only [bA3, bA7]
  generalize QE .i64 a 3 = s3 at *; generalize QE .i64 a 5 = s5
  have w : IntKind.i64.wrap (3 + s5 % 4) = 3 + s5 % 4 := Zr (by omega)
  rw [w]
  generalize a.tmod 7 = k
  by_cases k0 : k = 0
  · refine ⟨⟨1, .empty, 0, 0, 0⟩, ?_, by simp [Ux, z]⟩; simp [k0]
  by_cases k1 : k = 1
  · refine ⟨⟨2, s, 0, 0, 0⟩, ?_, by simp [Ux, hs1, hs2]⟩; simp [k1, hs]
  by_cases k2 : k = 2
  · refine ⟨⟨3, .empty, 0, 0, 0⟩, ?_, by simp [Ux, z]⟩; simp [k2]
  by_cases k3 : k = 3
  · refine ⟨⟨4, .empty, 0, 0, 0⟩, ?_, by simp [Ux, z]⟩; simp [k3]
  by_cases k4 : k = 4
  · refine ⟨⟨5, .empty, s3 % 8, 0, 0⟩, ?_, by simp [Ux, z]; omega⟩; simp [k4]
  by_cases k5 : k = 5
  · refine ⟨⟨6, s, 0, 0, 0⟩, ?_, by simp [Ux, hs1, hs2]⟩; simp [k5, hs]
  refine ⟨⟨7, .empty, 0, s3 % 4, 3 + s5 % 4⟩, ?_, by simp [Ux, z]; omega⟩
  simp [k0, k1, k2, k3, k4, k5]
theorem Ln (a : Int) : ∃ x, Wl a x ∧ Fa x = 0 := by
  unfold Wl AS
  obtain ⟨s, hs, hs1, hs2⟩ := CB a
  simp only [bA3, bA7, bA15, MU, jn]
  generalize QE .i64 a 12 = s12; generalize QE .i64 a 4 = s4
  have w1 : IntKind.i64.wrap (a % 65536 * 65537) = a % 65536 * 65537 := Zr (by omega)
  have w2 : (a % 65536 * 65537).tmod 4294967295 = a % 65536 * 65537 % 4294967295 := KC (by omega)
  have w3 : IntKind.i64.wrap (1 + a % 65536 * 65537 % 4294967295) = 1 + a % 65536 * 65537 % 4294967295 := Zr (by omega)
  have w4 : IntKind.i64.wrap (4294967295 - a % 4) = 4294967295 - a % 4 := Zr (by omega)
  have w5 : IntKind.i64.wrap (1 + s4 % 8) = 1 + s4 % 8 := Zr (by omega)
  simp only [w1, w2, w3, w4, w5]
  have it : ∀ w : Int, 1 ≤ w → w ≤ 4294967295 → Fa ⟨s, w⟩ = 0 := by intro w h1 h2; simp [Fa, hs1, hs2, h1, h2]
  generalize s12 % 16 = k
  by_cases k1 : k = 14
  · refine ⟨⟨s, 1 + a % 65536 * 65537 % 4294967295⟩, ?_, it _ (by omega) (by omega)⟩; simp [k1, hs]
  by_cases k2 : k = 15
  · refine ⟨⟨s, 4294967295 - a % 4⟩, ?_, it _ (by omega) (by omega)⟩; simp [k2, hs]
  refine ⟨⟨s, 1 + s4 % 8⟩, ?_, it _ (by omega) (by omega)⟩
  simp [k1, k2, hs]
theorem DC (l : List Int) (n : Int) (hl : l.length ≤ 4611686018427387904) (h0 : 0 ≤ n) (h1 : n ≤ 1000) : ∃ r, VF l n r ∧ (r.length : Int) = n ∧ ∀ x ∈ r, Fa x = 0 := by
  refine HI (Post := fun r => (r.length : Int) = n ∧ ∀ x ∈ r, Fa x = 0) ?_
  unfold XI
  simp only [jn]
  refine Kc (I := fun k s => (s.1.length : Int) = s.2 ∧ 0 ≤ s.2 ∧ s.2 ≤ n ∧ k = (n - s.2).toNat ∧ ∀ x ∈ s.1, Fa x = 0) ?_ (k := n.toNat) ⟨rfl, by omega, by omega, by simp, by simp⟩
  rintro k ⟨r, i⟩ ⟨hr, hi0, hi1, hk, hx⟩ X hX
  simp only at hr hi0 hi1 hk hx ⊢
  refine ⟨fun h => ?_, fun h => ?_⟩
  · have hlt : i < n := by simpa using h
    obtain ⟨v, hv, _, _⟩ := WL l i hl hi0 (by omega)
    obtain ⟨x, hx1, hx2⟩ := Ln v
    refine ⟨v, hv, x, hx1, by simp; omega, ?_⟩
    rw [Zr (by omega)]
    refine hX (n - (i + 1)).toNat _ (by omega) ⟨by simp; omega, by simp only; omega, by simp only; omega, rfl, ?_⟩
    intro y hy
    rcases List.mem_append.1 hy with h | h
    · exact hx y h
    · simp at h; rw [h]; exact hx2
  · have hge : ¬ i < n := by simpa using h
    exact ⟨by omega, hx⟩
theorem DD (a : Int) : ∃ r, JW a r ∧ r.length ≤ 4 := by
  unfold JW A1
  rw [bA3, Zr (by omega)]
  exact ⟨_, ⟨⟨by omega, by simp; omega⟩, rfl⟩, by simp; omega⟩
end Go.Proofs.YthlaenafkihjiaaGreat
namespace Go.Proofs.YthlaenafkihjiaaGreat
open Go.RowKit
set_option linter.unusedVariables false
set_option linter.unusedSimpArgs false
theorem Bj {α : Type} {l : List α} (hl : l.length ≤ 4611686018427387904) {B : (Int → Prop) → Int → Prop} {J : Prop} (P : α → Prop)
    (hB : ∀ (j : Nat) x, j < l.length → l[j]? = some x → ∀ X : Int → Prop, (P x → X (IntKind.i64.wrap ((j : Int) + 1))) → B X (j : Int)) (hJ : (∀ x ∈ l, P x) → J) :
    lp (fun X s => (decide (s < (l.length : Int)) = true → B X s) ∧ (decide (s < (l.length : Int)) = false → J)) 0 := by
  refine I0 l.length hl (fun j => ∀ i, i < j → ∀ y, l[i]? = some y → P y) (fun i hi => absurd hi (by omega)) ?_ ?_
  · intro j hj hI X hX
    obtain ⟨x, hx⟩ : ∃ x, l[j]? = some x := ⟨l[j], by simp [hj]⟩
    refine hB j x hj hx X fun h0 => hX fun i hi y hy => ?_
    by_cases e : i = j
    · subst e; rw [hx] at hy; cases hy; exact h0
    · exact hI i (by omega) y hy
  · intro hI
    refine hJ fun x hx => ?_
    obtain ⟨j, hj⟩ := List.getElem?_of_mem hx
    have := hj
    rw [List.getElem?_eq_some_iff] at this
    exact hI j this.1 x hj
theorem XC (t : QS) : ∃ v, K2 t v ∧ (v = 0 → (0 ≤ t.fTotal ∧ t.fTotal ≤ 4294967295) ∧ 0 ≤ t.fItems ∧ t.fItems ≤ 4294967295) := by
  refine AT (Post := fun v => v = 0 → (0 ≤ t.fTotal ∧ t.fTotal ≤ 4294967295) ∧ 0 ≤ t.fItems ∧ t.fItems ≤ 4294967295) ?_
  unfold Kq
  simp only [ZT, exists_eq_left, Jh, JL]
  refine ⟨_, fun _ => rfl, fun _ h => by simp at h, fun h _ => ?_⟩
  simp [wI] at h
  exact ⟨h.1.1, h.1.2⟩
def okCm (c : Qx) : Prop := (1 ≤ c.fDepth ∧ c.fDepth ≤ 8) ∧ (1 ≤ c.fSize ∧ c.fSize ≤ 64) ∧ (c.fCells.length : Int) = c.fDepth * c.fSize ∧ ∀ x ∈ c.fCells, 0 ≤ x ∧ x ≤ 4294967295
theorem Ic {d s : Int} (h1 : 1 ≤ d ∧ d ≤ 8) (h2 : 1 ≤ s ∧ s ≤ 64) : 1 ≤ d * s ∧ d * s ≤ 512 := by
  have h : d = 1 ∨ d = 2 ∨ d = 3 ∨ d = 4 ∨ d = 5 ∨ d = 6 ∨ d = 7 ∨ d = 8 := by omega
  rcases h with rfl | rfl | rfl | rfl | rfl | rfl | rfl | rfl <;> omega
theorem Vx (c : Qx) : ∃ v, ZG c v ∧ (v = 0 → okCm c) := by
  refine UD (Post := fun v => v = 0 → okCm c) ?_
  unfold ZY
  simp only [ZT, exists_eq_left, Jh, JL, jn]
  refine ⟨_, fun _ => rfl, fun _ h => by simp at h, fun h => ?_⟩
  have h' : (1 ≤ c.fDepth ∧ c.fDepth ≤ 8) ∧ 1 ≤ c.fSize ∧ c.fSize ≤ 64 := by simpa [wI] using h
  have hm := Ic h'.1 h'.2
  rw [Zr (by omega)]
  refine ⟨fun _ h => by simp at h, fun hl => ?_⟩
  have hl' : (c.fCells.length : Int) = c.fDepth * c.fSize := by simpa using hl
  refine Bj (by omega) (fun x => 0 ≤ x ∧ x ≤ 4294967295) ?_ ?_
  · intro j x hj hx X hX
    refine ⟨x, V9 rfl hx, fun _ h => by simp at h, fun h => hX (by simpa [wI] using h)⟩
  · intro hP _; exact ⟨h'.1, h'.2, hl', hP⟩
def okLl (c : QH) : Prop := (2 ≤ c.fPrecision ∧ c.fPrecision ≤ 8) ∧ (c.fRegisters.length : Int) = Va .i64 1 (IntKind.u64.wrap c.fPrecision) ∧ c.fRegisters.length ≤ 256 ∧ ∀ x ∈ c.fRegisters, 0 ≤ x ∧ x ≤ 63
theorem ON {p : Int} (h : 2 ≤ p ∧ p ≤ 8) : 4 ≤ Va .i64 1 (IntKind.u64.wrap p) ∧ Va .i64 1 (IntKind.u64.wrap p) ≤ 256 := by
  have h : p = 2 ∨ p = 3 ∨ p = 4 ∨ p = 5 ∨ p = 6 ∨ p = 7 ∨ p = 8 := by omega
  rcases h with rfl | rfl | rfl | rfl | rfl | rfl | rfl <;> decide
theorem Xi (c : QH) : ∃ v, ZW c v ∧ (v = 0 → okLl c) := by
  refine Aq (Post := fun v => v = 0 → okLl c) ?_
  unfold Ke
  simp only [ZT, exists_eq_left, Jh, JL, jn]
  refine ⟨fun _ h => by simp at h, fun h => ?_⟩
  have h' : 2 ≤ c.fPrecision ∧ c.fPrecision ≤ 8 := by simpa [wI] using h
  have hm := ON h'
  refine ⟨by rw [An (by omega)]; omega, fun _ h => by simp at h, fun hl => ?_⟩
  have hl' : (c.fRegisters.length : Int) = Va .i64 1 (IntKind.u64.wrap c.fPrecision) := by simpa using hl
  refine Bj (by omega) (fun x => 0 ≤ x ∧ x ≤ 63) ?_ ?_
  · intro j x hj hx X hX
    refine ⟨x, V9 rfl hx, fun _ h => by simp at h, fun h => hX ?_⟩
    rw [Zr (by omega)] at h
    simp [wI] at h; omega
  · intro hP _; exact ⟨h', hl', by omega, hP⟩
theorem Bl (l : List Q3) (k : ByteArray) (hl : l.length ≤ 1000000) : ∃ v, Xq l k v ∧ -1 ≤ v ∧ v < l.length := by
  refine IS (Post := fun v => -1 ≤ v ∧ v < (l.length : Int)) ?_
  unfold Yl
  simp only [jn]
  refine Bj (by omega) (fun _ => True) ?_ (fun _ => by omega)
  intro j x hj hx X hX
  exact ⟨x, V9 rfl hx, fun _ => by omega, fun _ => hX trivial⟩
def okE (e : Q3) : Prop := (1 ≤ e.fKey.size ∧ e.fKey.size ≤ 32) ∧ (1 ≤ e.fCount ∧ e.fCount ≤ 1099511627776) ∧ 0 ≤ e.fError ∧ e.fError < e.fCount
def PP (c : QW) : Prop := (1 ≤ c.fSize ∧ c.fSize ≤ 32) ∧ (0 ≤ c.fTotal ∧ c.fTotal ≤ 1099511627776) ∧ (c.fEntries.length : Int) ≤ c.fSize ∧ ∀ e ∈ c.fEntries, okE e
theorem Yi (c : QW) : ∃ v, Ko c v ∧ (v = 0 → PP c) := by
  refine Cc (Post := fun v => v = 0 → PP c) ?_
  unfold KM
  simp only [ZT, VL, exists_eq_left, Jh, JL, jn]
  refine ⟨_, fun _ => rfl, fun _ h => by simp at h, fun h => ?_⟩
  have h' : (1 ≤ c.fSize ∧ c.fSize ≤ 32) ∧ 0 ≤ c.fTotal ∧ c.fTotal ≤ 1099511627776 := by simpa [wI] using h
  refine ⟨fun _ h => by simp at h, fun hl => ?_⟩
  have hl' : (c.fEntries.length : Int) ≤ c.fSize := by simpa using hl
  refine Bj (by omega) okE ?_ (fun hP _ => ⟨h'.1, h'.2, hl', hP⟩)
  intro j x hj hx X hX
  refine ⟨x, V9 rfl hx, fun _ h => by simp at h, fun hk => ?_⟩
  have hk' : 1 ≤ x.fKey.size ∧ x.fKey.size ≤ 32 := by simpa using hk
  refine ⟨_, fun _ => rfl, fun _ h => by simp at h, fun hc => ?_⟩
  have hc1 : 1 ≤ x.fCount ∧ x.fCount ≤ 1099511627776 := by simp [wI] at hc; exact hc.1
  rw [Zr (by omega)] at hc
  have hc2 : 0 ≤ x.fError ∧ x.fError ≤ x.fCount - 1 := by simp [wI] at hc; exact ⟨hc.2.1, by omega⟩
  obtain ⟨v, hv, _⟩ := Bl (List.take (Int.toNat (j : Int)) c.fEntries) x.fKey (by simp; omega)
  refine ⟨⟨by omega, by omega⟩, v, hv, fun _ h => by simp at h, fun _ => ?_⟩
  by_cases h0 : j = 0
  · subst h0
    refine ⟨x, fun h => by simp at h, true, fun h => by simp at h, fun _ h => by simp at h, fun _ => hX ⟨hk', hc1, hc2.1, by omega⟩⟩
  · obtain ⟨y, hy⟩ : ∃ y, c.fEntries[j - 1]? = some y := ⟨c.fEntries[j - 1]'(by omega), by simp⟩
    refine ⟨y, fun _ => V9 (j := j - 1) (by rw [Zr (by omega)]; omega) hy, _, fun _ => rfl, fun _ h => by simp at h, fun _ => hX ⟨hk', hc1, hc2.1, by omega⟩⟩
def okFr (c : QB) : Prop := (1 ≤ c.fSize ∧ c.fSize ≤ 32) ∧ (0 ≤ c.fTotal ∧ c.fTotal ≤ 1099511627776) ∧ (0 ≤ c.fLost ∧ c.fLost ≤ 1099511627776) ∧ (c.fEntries.length : Int) ≤ c.fSize ∧ ∀ e ∈ c.fEntries, okE e
theorem Vy (c : QB) : ∃ v, ZH c v ∧ (v = 0 → okFr c) := by
  refine UE (Post := fun v => v = 0 → okFr c) ?_
  unfold ZZ
  simp only [ZT, VL, exists_eq_left, Jh, JL, jn]
  refine ⟨_, fun _ => rfl, _, fun _ => rfl, fun _ h => by simp at h, fun h => ?_⟩
  have h' : ((1 ≤ c.fSize ∧ c.fSize ≤ 32) ∧ 0 ≤ c.fTotal ∧ c.fTotal ≤ 1099511627776) ∧ 0 ≤ c.fLost ∧ c.fLost ≤ 1099511627776 := by simpa [wI] using h
  refine ⟨fun _ h => by simp at h, fun hl => ?_⟩
  have hl' : (c.fEntries.length : Int) ≤ c.fSize := by simpa using hl
  refine Bj (by omega) okE ?_ (fun hP _ => ⟨h'.1.1, h'.1.2, h'.2, hl', hP⟩)
  intro j x hj hx X hX
  refine ⟨x, V9 rfl hx, fun _ h => by simp at h, fun hk => ?_⟩
  have hk' : 1 ≤ x.fKey.size ∧ x.fKey.size ≤ 32 := by simpa using hk
  refine ⟨fun _ h => by simp at h, fun hc => ?_⟩
  have hc1 : (1 ≤ x.fCount ∧ x.fCount ≤ 1099511627776) ∧ x.fError = 0 := by simpa [wI] using hc
  by_cases h0 : j = 0
  · subst h0
    refine ⟨x, fun h => by simp at h, fun _ h => by simp at h, fun _ => hX ⟨hk', hc1.1, by omega, by omega⟩⟩
  · obtain ⟨y, hy⟩ : ∃ y, c.fEntries[j - 1]? = some y := ⟨c.fEntries[j - 1]'(by omega), by simp⟩
    refine ⟨y, fun _ => V9 (j := j - 1) (by rw [Zr (by omega)]; omega) hy, fun _ h => by simp at h, fun _ => hX ⟨hk', hc1.1, by omega, by omega⟩⟩
def Rs (c : QI) : Prop := (2 ≤ c.fSize ∧ c.fSize ≤ 32 ∧ c.fSize % 2 = 0) ∧ (0 ≤ c.fTotal ∧ c.fTotal ≤ 1099511627776) ∧ (0 ≤ c.fSlack ∧ c.fSlack ≤ 1099511627776) ∧ c.fLevels.length ≤ 41 ∧ ∀ l ∈ c.fLevels, (l.length : Int) < c.fSize ∧ ∀ s ∈ l, 1 ≤ s.size ∧ s.size ≤ 32
theorem XD (c : QI) : ∃ v, K3 c v ∧ (v = 0 → Rs c) := by
  refine AX (Post := fun v => v = 0 → Rs c) ?_
  unfold Kr
  simp only [ZT, VL, exists_eq_left, Jh, JL, jn]
  refine ⟨_, fun _ => rfl, _, fun _ => rfl, fun _ h => by simp at h, fun h => ?_⟩
  have h' : (((2 ≤ c.fSize ∧ c.fSize ≤ 32) ∧ ¬ c.fSize.tmod 2 = 1) ∧ 0 ≤ c.fTotal ∧ c.fTotal ≤ 1099511627776) ∧ 0 ≤ c.fSlack ∧ c.fSlack ≤ 1099511627776 := by simpa [wI] using h
  have he : c.fSize % 2 = 0 := by have := h'.1.1.2; rw [KC (by omega)] at this; omega
  refine ⟨fun _ h => by simp at h, fun hl => ?_⟩
  have hl' : c.fLevels.length ≤ 41 := by simp at hl; omega
  clear h hl
  refine Kc (I := fun k s => ∃ j : Nat, s.2 = (j : Int) ∧ j ≤ c.fLevels.length ∧ k = c.fLevels.length - j ∧ ∀ i, i < j → ∀ y, c.fLevels[i]? = some y → (y.length : Int) < c.fSize ∧ ∀ s ∈ y, 1 ≤ s.size ∧ s.size ≤ 32) ?_ (k := c.fLevels.length) ⟨0, rfl, by omega, by omega, fun i hi => absurd hi (by omega)⟩
  rintro k ⟨tot, i⟩ ⟨j, hj, hj1, hk, hI⟩ X hX
  simp only at hj ⊢
  subst hj
  refine ⟨fun h => ?_, fun h => ?_⟩
  · have hlt : j < c.fLevels.length := by simp at h; omega
    obtain ⟨L, hL⟩ : ∃ x, c.fLevels[j]? = some x := ⟨c.fLevels[j], by simp [hlt]⟩
    have hx : ix c.fLevels (j : Int) L := V9 rfl hL
    refine ⟨L, hx, fun _ h => by simp at h, fun h2 => ?_⟩
    have h2' : (L.length : Int) < c.fSize := by simpa using h2
    refine Kc (I := fun k s => ∃ m : Nat, s = (m : Int) ∧ m ≤ L.length ∧ k = L.length - m ∧ ∀ i, i < m → ∀ y, L[i]? = some y → 1 ≤ y.size ∧ y.size ≤ 32) ?_ (k := L.length) ⟨0, rfl, by omega, by omega, fun i hi => absurd hi (by omega)⟩
    rintro k2 s ⟨m, rfl, hm1, hk2, hI2⟩ X2 hX2
    refine ⟨L, hx, fun h3 => ?_, fun h3 => ?_⟩
    · have hm : m < L.length := by simp at h3; omega
      obtain ⟨y, hy⟩ : ∃ x, L[m]? = some x := ⟨L[m], by simp [hm]⟩
      refine ⟨L, hx, y, V9 rfl hy, fun _ h => by simp at h, fun h4 => ?_⟩
      have h4' : 1 ≤ y.size ∧ y.size ≤ 32 := by simpa using h4
      refine ⟨L, fun _ => hx, y, fun _ => V9 rfl hy, L, fun _ => hx, ?_⟩
      have go : X2 (IntKind.i64.wrap ((m : Int) + 1)) := by
        rw [Zr (by omega)]
        refine hX2 (L.length - (m + 1)) _ (by omega) ⟨m + 1, by omega, by omega, rfl, fun i hi z hz => ?_⟩
        by_cases e : i = m
        · subst e; rw [hy] at hz; cases hz; exact h4'
        · exact hI2 i (by omega) z hz
      by_cases h0 : m = 0
      · subst h0
        exact ⟨y, fun h => by simp at h, fun _ h => by simp at h, fun _ => go⟩
      · obtain ⟨z, hz⟩ : ∃ z, L[m - 1]? = some z := ⟨L[m - 1]'(by omega), by simp⟩
        exact ⟨z, fun _ => V9 (j := m - 1) (by rw [Zr (by omega)]; omega) hz, fun _ h => by simp at h, fun _ => go⟩
    · have hm : m = L.length := by simp at h3; omega
      subst hm
      refine ⟨L, hx, by rw [An (by omega)]; omega, ?_⟩
      rw [Zr (n := (j : Int) + 1) (by omega)]
      refine hX (c.fLevels.length - (j + 1)) _ (by omega) ⟨j + 1, by simp, by omega, rfl, fun i hi z hz => ?_⟩
      by_cases e : i = j
      · subst e; rw [hL] at hz; cases hz
        refine ⟨h2', fun s hs => ?_⟩
        obtain ⟨i, hi⟩ := List.getElem?_of_mem hs
        have := hi
        rw [List.getElem?_eq_some_iff] at this
        exact hI2 i this.1 s hi
      · exact hI i (by omega) z hz
  · have hge : j = c.fLevels.length := by simp at h; omega
    have fin : Rs c := by
      refine ⟨⟨h'.1.1.1.1, h'.1.1.1.2, he⟩, h'.1.2, h'.2, hl', fun l hl => ?_⟩
      obtain ⟨i, hi⟩ := List.getElem?_of_mem hl
      have := hi
      rw [List.getElem?_eq_some_iff] at this
      exact hI i (by rw [hge]; exact this.1) l hi
    by_cases h0 : c.fLevels.length = 0
    · refine ⟨[], fun h => by simp [h0] at h, fun _ h => by simp at h, fun _ => ⟨fun _ h => by simp at h, fun _ _ => fin⟩⟩
    · obtain ⟨z, hz⟩ : ∃ z, c.fLevels[c.fLevels.length - 1]? = some z := ⟨c.fLevels[c.fLevels.length - 1]'(by omega), by simp⟩
      exact ⟨z, fun _ => V9 (j := c.fLevels.length - 1) (by rw [Zr (by omega)]; omega) hz, fun _ h => by simp at h, fun _ => ⟨fun _ h => by simp at h, fun _ _ => fin⟩⟩
theorem Ap (a b : List Int) (ha : a.length ≤ 1000000) : ∃ v, JQ a b v := by
  obtain ⟨v, hv, _⟩ := EO (Post := fun _ => True) (a0 := a) (a1 := b) (by
    unfold JP
    simp only [jn]
    refine ⟨fun _ => trivial, fun h => ?_⟩
    have hl : a.length = b.length := by simp at h; omega
    refine Bj (by omega) (fun _ => True) ?_ (fun _ => trivial)
    intro j x hj hx X hX
    obtain ⟨y, hy⟩ : ∃ y, b[j]? = some y := ⟨b[j]'(by omega), by simp⟩
    exact ⟨x, V9 rfl hx, y, V9 rfl hy, fun _ => trivial, fun _ => hX trivial⟩)
  exact ⟨v, hv⟩
theorem U8 (a b : List Q3) (ha : a.length ≤ 1000000) : ∃ v, KO a b v := by
  obtain ⟨v, hv, _⟩ := Cd (Post := fun _ => True) (a0 := a) (a1 := b) (by
    unfold KN
    simp only [jn]
    refine ⟨fun _ => trivial, fun h => ?_⟩
    have hl : a.length = b.length := by simp at h; omega
    refine Bj (by omega) (fun _ => True) ?_ (fun _ => trivial)
    intro j x hj hx X hX
    obtain ⟨y, hy⟩ : ∃ y, b[j]? = some y := ⟨b[j]'(by omega), by simp⟩
    exact ⟨x, V9 rfl hx, y, V9 rfl hy, fun _ => trivial, fun _ => hX trivial⟩)
  exact ⟨v, hv⟩
theorem Eg (a b : QI) (ha : a.fLevels.length ≤ 1000000) (ha2 : ∀ l ∈ a.fLevels, l.length ≤ 1000000) : ∃ v, Vi a b v := by
  obtain ⟨v, hv, _⟩ := DZ (Post := fun _ => True) (a0 := a) (a1 := b) (by
    unfold Jq
    simp only [jn, JL]
    refine ⟨fun _ => trivial, fun h => ?_⟩
    have hl : a.fLevels.length = b.fLevels.length := by
      have := (Bool.or_eq_false_iff.1 h).2
      simp at this; omega
    refine Bj (by omega) (fun _ => True) ?_ (fun _ => trivial)
    intro j x hj hx X hX
    obtain ⟨y, hy⟩ : ∃ y, b.fLevels[j]? = some y := ⟨b.fLevels[j]'(by omega), by simp⟩
    have hxl : x.length ≤ 1000000 := ha2 x (List.mem_of_getElem? hx)
    refine ⟨x, V9 rfl hx, y, V9 rfl hy, fun _ => trivial, fun h2 => ?_⟩
    have hl2 : x.length = y.length := by simp at h2; omega
    refine Kc (I := fun k s => ∃ m : Nat, s = (m : Int) ∧ m ≤ x.length ∧ k = x.length - m) ?_ (k := x.length) ⟨0, rfl, by omega, by omega⟩
    rintro k s ⟨m, rfl, hm, hk⟩ X2 hX2
    refine ⟨x, V9 rfl hx, fun h3 => ?_, fun _ => hX trivial⟩
    have hm2 : m < x.length := by simp at h3; omega
    obtain ⟨p, hp⟩ : ∃ p, x[m]? = some p := ⟨x[m]'(by omega), by simp⟩
    obtain ⟨q, hq⟩ : ∃ q, y[m]? = some q := ⟨y[m]'(by omega), by simp⟩
    refine ⟨x, V9 rfl hx, p, V9 rfl hp, y, V9 rfl hy, q, V9 rfl hq, fun _ => trivial, fun _ => ?_⟩
    rw [Zr (by omega)]
    exact hX2 (x.length - (m + 1)) _ (by omega) ⟨m + 1, by simp, by omega, rfl⟩)
  exact ⟨v, hv⟩
def Lo (s : Qw) : Prop := s.fCountMin.fCells.length ≤ 1000000 ∧ s.fLogLog.fRegisters.length ≤ 1000000 ∧ s.fTop.fEntries.length ≤ 1000000 ∧ s.fFrequent.fEntries.length ≤ 1000000 ∧ s.fRanks.fLevels.length ≤ 1000000 ∧ ∀ l ∈ s.fRanks.fLevels, l.length ≤ 1000000
theorem BH (a b : Qx) (ha : a.fCells.length ≤ 1000000) : ∃ v, Vd a b v := by
  obtain ⟨v, hv⟩ := Ap a.fCells b.fCells ha
  exact ⟨_, v, fun _ => hv, rfl⟩
theorem DF (a b : QH) (ha : a.fRegisters.length ≤ 1000000) : ∃ v, Xj a b v := by
  obtain ⟨v, hv⟩ := Ap a.fRegisters b.fRegisters ha
  exact ⟨_, v, fun _ => hv, rfl⟩
theorem Gf (a b : QW) (ha : a.fEntries.length ≤ 1000000) : ∃ v, YC a b v := by
  obtain ⟨v, hv⟩ := U8 a.fEntries b.fEntries ha
  exact ⟨_, v, fun _ => hv, rfl⟩
theorem BI (a b : QB) (ha : a.fEntries.length ≤ 1000000) : ∃ v, Ve a b v := by
  obtain ⟨v, hv⟩ := U8 a.fEntries b.fEntries ha
  exact ⟨_, v, fun _ => hv, rfl⟩
theorem Ie (a b : Qw) (h : Lo a) : ∃ v, WF a b v := by
  obtain ⟨h1, h2, h3, h4, h5, h6⟩ := h
  obtain ⟨v1, e1⟩ := BH a.fCountMin b.fCountMin h1
  obtain ⟨v2, e2⟩ := DF a.fLogLog b.fLogLog h2
  obtain ⟨v3, e3⟩ := Gf a.fTop b.fTop h3
  obtain ⟨v4, e4⟩ := BI a.fFrequent b.fFrequent h4
  obtain ⟨v5, e5⟩ := Eg a.fRanks b.fRanks h5 h6
  exact ⟨_, v1, fun _ => e1, v2, fun _ => e2, v3, fun _ => e3, v4, fun _ => e4, v5, fun _ => e5, rfl⟩
theorem If (s : Qw) : ∃ v, YD s v := by
  unfold YD A5
  simp only [jn]
  generalize s.fParams.fKind = k
  by_cases k1 : k = 1
  · subst k1; exact ⟨_, fun _ => rfl, fun h => by simp at h⟩
  have e1 : (k == 1) = false := by simp [k1]
  by_cases k2 : k = 2
  · subst k2; exact ⟨_, fun h => by simp at h, fun _ => ⟨fun _ => rfl, fun h => by simp at h⟩⟩
  have e2 : (k == 2) = false := by simp [k2]
  by_cases k3 : k = 3
  · subst k3; exact ⟨_, fun h => by simp at h, fun _ => ⟨fun h => by simp at h, fun _ => ⟨fun _ => rfl, fun h => by simp at h⟩⟩⟩
  have e3 : (k == 3) = false := by simp [k3]
  by_cases k4 : k = 4
  · subst k4; exact ⟨_, fun h => by simp at h, fun _ => ⟨fun h => by simp at h, fun _ => ⟨fun h => by simp at h, fun _ => ⟨fun _ => rfl, fun h => by simp at h⟩⟩⟩⟩
  have e4 : (k == 4) = false := by simp [k4]
  by_cases k5 : k = 5
  · subst k5; exact ⟨_, fun h => by simp at h, fun _ => ⟨fun h => by simp at h, fun _ => ⟨fun h => by simp at h, fun _ => ⟨fun h => by simp at h, fun _ => ⟨fun _ => rfl, fun h => by simp at h⟩⟩⟩⟩⟩
  have e5 : (k == 5) = false := by simp [k5]
  by_cases k6 : k = 6
  · subst k6; exact ⟨_, fun h => by simp at h, fun _ => ⟨fun h => by simp at h, fun _ => ⟨fun h => by simp at h, fun _ => ⟨fun h => by simp at h, fun _ => ⟨fun h => by simp at h, fun _ => ⟨fun _ => rfl, fun h => by simp at h⟩⟩⟩⟩⟩⟩
  have e6 : (k == 6) = false := by simp [k6]
  simp only [e1, e2, e3, e4, e5, e6]
  exact ⟨_, fun h => by simp at h, fun _ => ⟨fun h => by simp at h, fun _ => ⟨fun h => by simp at h, fun _ => ⟨fun h => by simp at h, fun _ => ⟨fun h => by simp at h, fun _ => ⟨fun h => by simp at h, fun _ => rfl⟩⟩⟩⟩⟩⟩
theorem UO (s : Qw) (h : Lo s) : ∃ v, Js s v ∧ (v = 0 → 1 ≤ s.fParams.fKind ∧ s.fParams.fKind ≤ 6) := by
  refine E1 (Post := fun v => v = 0 → 1 ≤ s.fParams.fKind ∧ s.fParams.fKind ≤ 6) (a0 := s) (by
    unfold Jr
    simp only [jn]
    refine ⟨_, VM s.fParams, fun h e => by simp [e] at h, fun hpar => ?_⟩
    have hk : 1 ≤ s.fParams.fKind ∧ s.fParams.fKind ≤ 6 := by
      have hp : Wr s.fParams.fKind s.fParams.fSize s.fParams.fDepth s.fParams.fSeed = 0 := by simpa using hpar
      unfold Wr at hp; grind
    obtain ⟨v12, e12⟩ := If s
    obtain ⟨v13, e13⟩ := Ie s v12 h
    obtain ⟨v1, e1, _⟩ := XC s.fTally
    obtain ⟨v2, e2, _⟩ := Vx s.fCountMin
    obtain ⟨v3, e3, _⟩ := Xi s.fLogLog
    obtain ⟨v4, e4, _⟩ := Yi s.fTop
    obtain ⟨v5, e5, _⟩ := Vy s.fFrequent
    obtain ⟨v6, e6, _⟩ := XD s.fRanks
    refine ⟨fun _ => ⟨v1, e1, ?_⟩, fun _ => ⟨fun _ => ⟨v2, e2, ?_⟩, fun _ => ⟨fun _ => ⟨v3, e3, ?_⟩, fun _ => ⟨fun _ => ⟨v4, e4, ?_⟩, fun _ => ⟨fun _ => ⟨v5, e5, ?_⟩, fun _ => ⟨fun _ => ⟨v6, e6, ?_⟩, fun _ => ?_⟩⟩⟩⟩⟩⟩
    all_goals exact ⟨fun _ _ => hk, fun _ => ⟨v12, fun _ => e12, v13, fun _ => e13, fun _ _ => hk, fun _ _ => hk⟩⟩)
end Go.Proofs.YthlaenafkihjiaaGreat
namespace Go.Proofs.YthlaenafkihjiaaGreat
open Go.RowKit
set_option linter.unusedVariables false
set_option linter.unusedSimpArgs false
theorem Bw (x : Int) : 0 ≤ IntKind.u64.wrap x ∧ IntKind.u64.wrap x ≤ 18446744073709551615 := by rw [IntKind.wrap_u64]; omega
theorem CC (a : Int) : ∃ v, W2 a v ∧ 0 ≤ v ∧ v ≤ 18446744073709551615 := ⟨_, rfl, Bw _⟩
theorem Mg (a b : Int) : ∃ v, A8 a b v := by
  obtain ⟨v, hv, _⟩ := CC (WQ .u64 (a) (IntKind.u64.wrap ((IntKind.u64.wrap ((IntKind.u64.wrap (b)) + (1))) * (15074714826142052245))))
  exact ⟨v, v, hv, rfl⟩
theorem DG (a : Int) : ∃ r, XL a r ∧ r.length = 256 := by
  refine HO (Post := fun r => r.length = 256) ?_
  unfold XK
  simp only [jn]
  refine Kc (I := fun k s => (s.1.length : Int) = s.2 - 1 ∧ 1 ≤ s.2 ∧ s.2 ≤ 257 ∧ k = (257 - s.2).toNat) ?_ (k := 256) ⟨rfl, by decide, by decide, rfl⟩
  rintro k ⟨r, i⟩ ⟨h1, h2, h3, hk⟩ X hX
  simp only at h1 h2 h3 hk ⊢
  refine ⟨fun h => ?_, fun h => ?_⟩
  · have hi : i ≤ 256 := by simpa using h
    obtain ⟨v, hv, _⟩ := CC (IntKind.u64.wrap ((a) + (IntKind.u64.wrap ((i) * (11400714819323198485)))))
    refine ⟨v, hv, by simp; omega, ?_⟩
    rw [An (by omega)]
    exact hX (257 - (i + 1)).toNat _ (by omega) ⟨by simp; omega, by simp only; omega, by simp only; omega, rfl⟩
  · have hi : ¬ i ≤ 256 := by simpa using h
    omega
theorem EF (l : List Int) (s : ByteArray) (hl : l.length = 256) (hs : s.size ≤ 1000000) : ∃ v, Yr l s v ∧ 0 ≤ v.1 ∧ v.1 ≤ 18446744073709551615 := by
  refine IZ (Post := fun v => 0 ≤ v.1 ∧ v.1 ≤ 18446744073709551615) ?_
  unfold Yq
  simp only [jn]
  refine ⟨fun _ => by decide, fun _ => ?_⟩
  obtain ⟨v, hv, _⟩ := Kl (l := l) (n := (s.size : Int) % 256) (by omega) (by omega)
  refine ⟨v, by rw [KC (by omega)]; exact hv, ?_⟩
  refine Kc (I := fun k s' => ∃ j : Nat, s'.2 = (j : Int) ∧ j ≤ s.size ∧ k = s.size - j) ?_ (k := s.size) ⟨0, rfl, by omega, by omega⟩
  rintro k ⟨h, i⟩ ⟨j, hj, hj1, hk⟩ X hX
  simp only at hj ⊢
  subst hj
  refine ⟨fun h => ?_, fun _ => ?_⟩
  · have hj2 : j < s.size := by simp at h; omega
    have hb := Bf hj2
    have hc : 0 ≤ Be s j ∧ Be s j ≤ 255 := by
      unfold Be; rw [dif_pos hj2]; have := (s[j]).toNat_lt; omega
    rw [Zr (n := (j : Int) + 1) (by omega)]
    have w : IntKind.i64.wrap (IntKind.i64.wrap (Be s j) + (j : Int)) = Be s j + j := by rw [Zr (n := Be s j) (by omega), Zr (by omega)]
    obtain ⟨v2, hv2, _⟩ := Kl (l := l) (n := (Be s j + j) % 256) (by omega) (by omega)
    refine ⟨Be s j, hb, v2, by rw [w, KC (by omega)]; exact hv2, ?_⟩
    exact hX (s.size - (j + 1)) _ (by omega) ⟨j + 1, by simp, by omega, rfl⟩
  · obtain ⟨m, hm, h0, h1⟩ := CC h
    exact ⟨m, hm, h0, h1⟩
theorem GL (a b c : Int) (s : ByteArray) : ∃ v, Y0 a b c s v ∧ (0 ≤ b ∧ b ≤ 7 → 1 ≤ c ∧ c ≤ 64 → 0 ≤ v.1 ∧ v.1 < c) := by
  refine Gv (Post := fun v => 0 ≤ b ∧ b ≤ 7 → 1 ≤ c ∧ c ≤ 64 → 0 ≤ v.1 ∧ v.1 < c) ?_
  unfold VZ
  simp only [ZT, VL, exists_eq_left, JL]
  refine ⟨_, fun _ => rfl, fun _ _ h => (show 0 ≤ (0 : Int) ∧ (0 : Int) < c by omega), fun h => ⟨fun _ _ h => (show 0 ≤ (0 : Int) ∧ (0 : Int) < c by omega), fun h2 => ?_⟩⟩
  have h' : (0 ≤ b ∧ b ≤ 7) ∧ 1 ≤ c ∧ c ≤ 64 := by simpa [wI] using h
  have h2' : 1 ≤ s.size ∧ s.size ≤ 32 := by simpa using h2
  obtain ⟨v6, e6⟩ := Mg a b
  obtain ⟨v7, e7, l7⟩ := DG v6
  obtain ⟨v8, e8, h80, h81⟩ := EF v7 s l7 (by omega)
  refine ⟨v6, e6, v7, e7, v8, e8, by rw [An (by omega)]; omega, fun _ _ => ?_⟩
  show 0 ≤ IntKind.i64.wrap (v8.1.tmod (IntKind.u64.wrap c)) ∧ IntKind.i64.wrap (v8.1.tmod (IntKind.u64.wrap c)) < c
  rw [An (n := c) (by omega), KC h80]
  have m0 := Int.emod_nonneg v8.1 (b := c) (by omega)
  have m1 := Int.emod_lt_of_pos v8.1 (b := c) (by omega)
  rw [Zr (by omega)]
  exact ⟨m0, m1⟩
theorem Af (a b c : Int) : ∃ v, Xv a b c v := by
  unfold Xv Cm
  cases h : (bif decide ((D5 a 0) > (D5 c 0)) then true else decide ((D5 b 0) > (IntKind.i64.wrap ((D5 c 0) - (D5 a 0)))))
  · refine ⟨(IntKind.i64.wrap ((D5 a 0) + (D5 b 0)), false), _, rfl, _, rfl, _, rfl, ?_⟩; exact ⟨fun h2 => (by rw [h] at h2; cases h2), fun _ => rfl⟩
  · refine ⟨(D5 c 0, true), _, rfl, _, rfl, _, rfl, ?_⟩; exact ⟨fun _ => rfl, fun h2 => (by rw [h] at h2; cases h2)⟩
theorem XE (a b : Int) : ∃ v, Ji a b v := by
  obtain ⟨v, hv⟩ := Af a b 1099511627776
  exact ⟨_, v, hv, rfl⟩
theorem Kb (x : Qb) : ∃ v, Zh x v ∧ (v = 0 → (1 ≤ x.fKey.size ∧ x.fKey.size ≤ 32) ∧ 1 ≤ x.fWeight ∧ x.fWeight ≤ 4294967295) :=
  ⟨_, WA x, fun h => by unfold Fa at h; grind⟩
theorem AF (c : Qx) (x : Qb) : ∃ v, KJ c x v ∧ v.1.fCells.length ≤ 1000 := by
  refine Aw (Post := fun v => v.1.fCells.length ≤ 1000) ?_
  unfold Kh
  simp only [jn]
  obtain ⟨v2, e2, ok⟩ := Vx c
  obtain ⟨v4, e4, ok4⟩ := Kb x
  refine ⟨v2, e2, fun _ => by simp, fun h2 => ⟨v4, e4, fun _ => by simp, fun h4 => ?_⟩⟩
  obtain ⟨hd, hs, hl, hx⟩ := ok (by simpa using h2)
  have hm := Ic hd hs
  refine ⟨by omega, ?_⟩
  refine Kc (I := fun k s => 0 ≤ s.1 ∧ s.1 ≤ c.fDepth ∧ k = (c.fDepth - s.1).toNat ∧ s.2.1.length = c.fCells.length) ?_ (k := c.fDepth.toNat) ⟨by simp, by simp only; omega, by simp, rfl⟩
  rintro k ⟨i, l, f⟩ ⟨h0, h1, hk, hlen⟩ X hX
  simp only at h0 h1 hk hlen ⊢
  refine ⟨fun h => ?_, fun _ => by omega⟩
  have hi : i < c.fDepth := by simpa using h
  obtain ⟨v, hv, hr⟩ := GL c.fSeed i c.fSize x.fKey
  obtain ⟨r0, r1⟩ := hr (by omega) hs
  have p1 : 0 ≤ i * c.fSize := Int.mul_nonneg h0 (by omega)
  have p2 : (i + 1) * c.fSize ≤ c.fDepth * c.fSize := Int.mul_le_mul_of_nonneg_right (by omega) (by omega)
  rw [Int.add_mul, Int.one_mul] at p2
  have w : IntKind.i64.wrap (IntKind.i64.wrap (i * c.fSize) + v.1) = i * c.fSize + v.1 := by rw [Zr (n := i * c.fSize) (by omega), Zr (by omega)]
  obtain ⟨y, hy, _⟩ := Kl (l := l) (n := i * c.fSize + v.1) (by omega) (by omega)
  obtain ⟨z, hz⟩ := Af y x.fWeight 4294967295
  refine ⟨i * c.fSize + v.1, ⟨v, hv, w.symm⟩, y, hy, z, hz, y, hy, ?_⟩
  rw [Zr (by omega)]
  exact hX (c.fDepth - (i + 1)).toNat _ (by omega) ⟨by simp only; omega, by simp only; omega, rfl, by simpa using hlen⟩
theorem shr_p {p v : Int} (hp : 2 ≤ p ∧ p ≤ 8) (h0 : 0 ≤ v) (h1 : v ≤ 18446744073709551615) : 0 ≤ QE .u64 v (IntKind.u64.wrap (IntKind.i64.wrap (64 - p))) ∧ QE .u64 v (IntKind.u64.wrap (IntKind.i64.wrap (64 - p))) < Va .i64 1 (IntKind.u64.wrap p) := by
  have h : p = 2 ∨ p = 3 ∨ p = 4 ∨ p = 5 ∨ p = 6 ∨ p = 7 ∨ p = 8 := by omega
  have hd : ∀ m : Int, 0 < m → v.fdiv m = v / m := fun m hm => Int.fdiv_eq_ediv_of_nonneg v (by omega)
  rcases h with rfl | rfl | rfl | rfl | rfl | rfl | rfl
  · have e1 : IntKind.u64.wrap (IntKind.i64.wrap (64 - 2)) = 62 := by decide
    have e2 : Va .i64 1 (IntKind.u64.wrap 2) = 4 := by decide
    rw [e1, e2]; show 0 ≤ v.fdiv 4611686018427387904 ∧ v.fdiv 4611686018427387904 < 4; rw [hd _ (by decide)]; omega
  · have e1 : IntKind.u64.wrap (IntKind.i64.wrap (64 - 3)) = 61 := by decide
    have e2 : Va .i64 1 (IntKind.u64.wrap 3) = 8 := by decide
    rw [e1, e2]; show 0 ≤ v.fdiv 2305843009213693952 ∧ v.fdiv 2305843009213693952 < 8; rw [hd _ (by decide)]; omega
  · have e1 : IntKind.u64.wrap (IntKind.i64.wrap (64 - 4)) = 60 := by decide
    have e2 : Va .i64 1 (IntKind.u64.wrap 4) = 16 := by decide
    rw [e1, e2]; show 0 ≤ v.fdiv 1152921504606846976 ∧ v.fdiv 1152921504606846976 < 16; rw [hd _ (by decide)]; omega
  · have e1 : IntKind.u64.wrap (IntKind.i64.wrap (64 - 5)) = 59 := by decide
    have e2 : Va .i64 1 (IntKind.u64.wrap 5) = 32 := by decide
    rw [e1, e2]; show 0 ≤ v.fdiv 576460752303423488 ∧ v.fdiv 576460752303423488 < 32; rw [hd _ (by decide)]; omega
  · have e1 : IntKind.u64.wrap (IntKind.i64.wrap (64 - 6)) = 58 := by decide
    have e2 : Va .i64 1 (IntKind.u64.wrap 6) = 64 := by decide
    rw [e1, e2]; show 0 ≤ v.fdiv 288230376151711744 ∧ v.fdiv 288230376151711744 < 64; rw [hd _ (by decide)]; omega
  · have e1 : IntKind.u64.wrap (IntKind.i64.wrap (64 - 7)) = 57 := by decide
    have e2 : Va .i64 1 (IntKind.u64.wrap 7) = 128 := by decide
    rw [e1, e2]; show 0 ≤ v.fdiv 144115188075855872 ∧ v.fdiv 144115188075855872 < 128; rw [hd _ (by decide)]; omega
  · have e1 : IntKind.u64.wrap (IntKind.i64.wrap (64 - 8)) = 56 := by decide
    have e2 : Va .i64 1 (IntKind.u64.wrap 8) = 256 := by decide
    rw [e1, e2]; show 0 ≤ v.fdiv 72057594037927936 ∧ v.fdiv 72057594037927936 < 256; rw [hd _ (by decide)]; omega
theorem F1 (p a : Int) (s : ByteArray) (hp : 2 ≤ p ∧ p ≤ 8) : ∃ v, VS p a s v ∧ 0 ≤ v.1 ∧ v.1 < Va .i64 1 (IntKind.u64.wrap p) := by
  have hs4 := ON hp
  refine ES (Post := fun v => 0 ≤ v.1 ∧ v.1 < Va .i64 1 (IntKind.u64.wrap p)) ?_
  unfold JS
  simp only [ZT, VL, exists_eq_left, jn]
  refine ⟨fun _ => by omega, fun _ => ⟨fun _ => by omega, fun h2 => ?_⟩⟩
  have h2' : 1 ≤ s.size ∧ s.size ≤ 32 := by simpa using h2
  obtain ⟨v5, e5, l5⟩ := DG a
  obtain ⟨v6, e6, h60, h61⟩ := EF v5 s l5 (by omega)
  refine ⟨v5, e5, v6, e6, ?_⟩
  have sh := shr_p hp h60 h61
  refine Kc (I := fun k s => -1 ≤ s.2 ∧ s.2 ≤ 63 ∧ k = (s.2 + 1).toNat) ?_ (k := (64 - p).toNat) ⟨by simp only; rw [Zr (by omega)]; omega, by simp only; rw [Zr (by omega)]; omega, by simp only; rw [Zr (by omega)]; omega⟩
  rintro k ⟨n, i⟩ ⟨h0, h1, hk⟩ X hX
  simp only at h0 h1 hk ⊢
  refine ⟨fun h => by rw [An (by simp at h; omega)]; simp at h; omega, fun h => ?_, fun h => ?_⟩
  · have hi : 0 ≤ i := by
      cases hd : decide (i ≥ 0) with
      | true => simpa using hd
      | false => rw [hd] at h; cases h
    rw [Zr (n := i - 1) (by omega)]
    exact hX (i - 1 + 1).toNat _ (by omega) ⟨by simp only; omega, by simp only; omega, rfl⟩
  · refine ⟨by rw [An (by rw [Zr (by omega)]; omega), Zr (by omega)]; omega, ?_⟩
    rw [Zr (n := QE .u64 v6.1 _) (by omega)]
    exact sh
theorem BJ (c : QH) (x : Qb) : ∃ v, Jk c x v ∧ v.1.fRegisters.length ≤ 1000 := by
  refine BE (Post := fun v => v.1.fRegisters.length ≤ 1000) ?_
  unfold KF
  obtain ⟨v2, e2, ok⟩ := Xi c
  obtain ⟨v4, e4, ok4⟩ := Kb x
  refine ⟨v2, e2, fun _ => by simp, fun h2 => ⟨v4, e4, fun _ => by simp, fun h4 => ?_⟩⟩
  obtain ⟨hp, hl, hlen, hx⟩ := ok (by simpa using h2)
  obtain ⟨v5, e5, h50, h51⟩ := F1 c.fPrecision c.fSeed x.fKey hp
  obtain ⟨y, hy, _⟩ := Kl (l := c.fRegisters) (n := v5.1) h50 (by omega)
  exact ⟨v5, e5, by omega, y, hy, y, hy, by simp; omega⟩
theorem CE (t : QS) (x : Qb) : ∃ v, JD t x v := by
  obtain ⟨v, hv, _⟩ := Cn (Post := fun _ => True) (a0 := t) (a1 := x) (by
    unfold KT
    obtain ⟨v2, e2, ok⟩ := XC t
    obtain ⟨v4, e4, ok4⟩ := Kb x
    obtain ⟨a1, h1⟩ := Af t.fTotal x.fWeight 4294967295
    obtain ⟨a2, h2⟩ := Af t.fItems 1 4294967295
    exact ⟨v2, e2, fun _ => trivial, fun _ => ⟨v4, e4, fun _ => trivial, fun _ => ⟨_, ⟨a1, h1, a2, h2, rfl⟩, trivial⟩⟩⟩)
  exact ⟨v, hv⟩
end Go.Proofs.YthlaenafkihjiaaGreat
namespace Go.Proofs.YthlaenafkihjiaaGreat
open Go.RowKit
set_option linter.unusedVariables false
set_option linter.unusedSimpArgs false
theorem Yj {α : Type} {l : List α} {j : Nat} (h : j < l.length) : ∃ x, ix l (j : Int) x := by
  obtain ⟨x, hx, _⟩ := Kl (l := l) (n := (j : Int)) (by omega) (by omega)
  exact ⟨x, hx⟩
theorem Ig (c : QW) (h : c.fEntries.length ≤ 1000) : ∃ v, YE c v := by
  obtain ⟨v, hv, _⟩ := HP (Post := fun _ => True) (a0 := c) (by
    unfold XM
    simp only [JL]
    refine ⟨fun _ => trivial, fun h2 => ?_⟩
    have h0 : c.fEntries.length ≠ 0 := by
      intro e; rw [e] at h2; simp at h2
    rw [Zr (by omega)]
    obtain ⟨x, hx, _⟩ := Kl (l := c.fEntries) (n := (c.fEntries.length : Int) - 1) (by omega) (by omega)
    exact ⟨x, hx, trivial⟩)
  exact ⟨v, hv⟩
theorem Bm (l : List Q3) (hl : l.length ≤ 1000) : ∃ r, Wp l r ∧ r.length ≤ 1000 := by
  refine La (Post := fun r => r.length ≤ 1000) ?_
  unfold Ys
  simp only [jn]
  refine Kc (I := fun k s => ∃ j : Nat, s.2 = (j : Int) ∧ j ≤ l.length ∧ k = l.length - j ∧ s.1.length = j) ?_ (k := l.length) ⟨0, rfl, by omega, by omega, rfl⟩
  rintro k ⟨a, i⟩ ⟨j, hj, hj1, hk, ha⟩ X hX
  simp only at hj ha ⊢
  subst hj
  refine ⟨fun h => ?_, fun _ => by omega⟩
  have hj2 : j < l.length := by simp at h; omega
  obtain ⟨x, hx⟩ := Yj hj2
  refine ⟨x, hx, by simp; omega, ?_⟩
  have w0 : IntKind.i64.wrap (((a ++ [x]).length : Int) - 1) = (j : Int) := by simp [ha]; rw [Zr (by omega)]
  rw [w0]
  refine Kc (I := fun k s => ∃ m : Nat, s.2 = (m : Int) ∧ m ≤ j ∧ k = m ∧ s.1.length = j + 1) ?_ (k := j) ⟨j, rfl, by omega, rfl, by simp [ha]⟩
  rintro k2 ⟨b, i2⟩ ⟨m, hm, hm1, hk2, hb⟩ X2 hX2
  simp only at hm hb ⊢
  subst hm
  have done : X (b, IntKind.i64.wrap ((j : Int) + 1)) := by
    rw [Zr (by omega)]
    exact hX (l.length - (j + 1)) _ (by omega) ⟨j + 1, by simp, by omega, rfl, hb⟩
  by_cases h0 : m = 0
  · subst h0
    exact ⟨x, fun h => by simp at h, x, fun h => by simp at h, false, fun h => by simp at h, fun h => by simp at h, fun _ => done⟩
  · obtain ⟨p, hp⟩ := Yj (l := b) (j := m) (by omega)
    obtain ⟨q, hq⟩ := Yj (l := b) (j := m - 1) (by omega)
    have wm : IntKind.i64.wrap ((m : Int) - 1) = ((m - 1 : Nat) : Int) := by rw [Zr (by omega)]; omega
    obtain ⟨z, hz⟩ := Yj (l := List.set b (Int.toNat (m : Int)) q) (j := m - 1) (by simp; omega)
    rw [wm]
    refine ⟨p, fun _ => hp, q, fun _ => hq, _, fun _ => rfl, fun _ => ⟨q, hq, p, hp, p, hp, z, hz, ?_⟩, fun _ => done⟩
    exact hX2 (m - 1) _ (by omega) ⟨m - 1, rfl, by omega, rfl, by simpa using hb⟩
theorem Eh (c : QW) (x : Qb) : ∃ v, Vm c x v ∧ v.1.fEntries.length ≤ 1000 := by
  refine E7 (Post := fun v => v.1.fEntries.length ≤ 1000) ?_
  unfold Jv
  simp only [jn]
  obtain ⟨v2, e2, ok⟩ := Yi c
  obtain ⟨v4, e4, ok4⟩ := Kb x
  refine ⟨v2, e2, fun _ => by simp, fun h2 => ⟨v4, e4, fun _ => by simp, fun h4 => ?_⟩⟩
  obtain ⟨hs, ht, hl, hx⟩ := ok (by simpa using h2)
  obtain ⟨v6, e6⟩ := XE c.fTotal x.fWeight
  obtain ⟨v7, e7, h70, h71⟩ := Bl c.fEntries x.fKey (by omega)
  refine ⟨by omega, v6, e6, v7, e7, fun h => ?_, fun h => ⟨fun h3 => ?_, fun h3 => ?_⟩⟩
  · have h' : 0 ≤ v7 := by simpa using h
    obtain ⟨y, hy, _⟩ := Kl (l := c.fEntries) (n := v7) h' h71
    obtain ⟨z, hz⟩ := XE y.fCount x.fWeight
    obtain ⟨r, hr, hr2⟩ := Bm (List.set c.fEntries (Int.toNat v7) (Q3.mk (y.fKey) (z.1) (y.fError))) (by simp; omega)
    exact ⟨y, hy, z, hz, y, hy, r, hr, hr2⟩
  · obtain ⟨r, hr, hr2⟩ := Bm (c.fEntries ++ [Q3.mk (x.fKey) (x.fWeight) (0)]) (by simp; omega)
    exact ⟨by simp; omega, r, hr, hr2⟩
  · have h3' : c.fSize ≤ c.fEntries.length := by simpa using h3
    obtain ⟨v13, e13⟩ := Ig c (by omega)
    obtain ⟨v14, e14⟩ := XE v13 x.fWeight
    have w : IntKind.i64.wrap ((c.fEntries.length : Int) - 1) = (c.fEntries.length : Int) - 1 := Zr (by omega)
    obtain ⟨y, hy, _⟩ := Kl (l := c.fEntries) (n := (c.fEntries.length : Int) - 1) (by omega) (by omega)
    rw [w]
    obtain ⟨r, hr, hr2⟩ := Bm (List.set c.fEntries (Int.toNat ((c.fEntries.length : Int) - 1)) (Q3.mk (x.fKey) (v14.1) (XX (v13) (IntKind.i64.wrap ((v14.1) - (1)))))) (by simp; omega)
    exact ⟨v13, e13, v14, e14, y, hy, r, hr, hr2⟩
theorem DI (l : List Q3) (x : Q3) (hl : l.length ≤ 900) : ∃ r, XO l x r ∧ r.length ≤ 1000 := by
  refine HR (Post := fun r => r.length ≤ 1000) ?_
  unfold XN
  simp only [jn]
  refine Kc (I := fun k s => ∃ j : Nat, s.2.2 = (j : Int) ∧ j ≤ l.length ∧ k = l.length - j ∧ s.1.length ≤ j + (if s.2.1 = true then 1 else 0)) ?_ (k := l.length) ⟨0, rfl, by omega, by omega, by simp⟩
  rintro k ⟨a, f, i⟩ ⟨j, hj, hj1, hk, ha⟩ X hX
  simp only at hj ha ⊢
  subst hj
  have hf : (if f = true then 1 else 0 : Nat) ≤ 1 := by cases f <;> simp
  refine ⟨fun h => ?_, fun h => ⟨fun _ => ⟨by simp; omega, by simp; omega⟩, fun _ => by omega⟩⟩
  have hj2 : j < l.length := by simp at h; omega
  obtain ⟨y, hy⟩ := Yj hj2
  refine ⟨y, fun _ => hy, fun h2 => ⟨by simp; omega, y, hy, by simp; omega, ?_⟩, fun h2 => ⟨y, hy, by simp; omega, ?_⟩⟩
  · rw [Zr (by omega)]
    have hff : f = false := by cases f <;> simp_all
    subst hff
    refine hX (l.length - (j + 1)) _ (by omega) ⟨j + 1, by simp, by omega, rfl, ?_⟩
    simp at ha ⊢; omega
  · rw [Zr (by omega)]
    refine hX (l.length - (j + 1)) _ (by omega) ⟨j + 1, by simp, by omega, rfl, ?_⟩
    simp; omega
theorem Ih (l : List Q3) (n : Int) (hl : l.length ≤ 900) : ∃ r, YF l n r ∧ r.length ≤ l.length := by
  refine HT (Post := fun r => r.length ≤ l.length) ?_
  unfold XP
  simp only [jn]
  refine Kc (I := fun k s => ∃ j : Nat, s.2 = (j : Int) ∧ j ≤ l.length ∧ k = l.length - j ∧ s.1.length ≤ j) ?_ (k := l.length) ⟨0, rfl, by omega, by omega, by simp⟩
  rintro k ⟨a, i⟩ ⟨j, hj, hj1, hk, ha⟩ X hX
  simp only at hj ha ⊢
  subst hj
  refine ⟨fun h => ?_, fun _ => by omega⟩
  have hj2 : j < l.length := by simp at h; omega
  obtain ⟨y, hy⟩ := Yj hj2
  rw [Zr (by omega)]
  refine ⟨y, hy, fun _ => ⟨y, hy, y, hy, by simp; omega, ?_⟩, fun _ => ?_⟩
  · exact hX (l.length - (j + 1)) _ (by omega) ⟨j + 1, by simp, by omega, rfl, by simp; omega⟩
  · exact hX (l.length - (j + 1)) _ (by omega) ⟨j + 1, by simp, by omega, rfl, by simp only; omega⟩
theorem AG (c : QB) (x : Qb) : ∃ v, KL c x v ∧ v.1.fEntries.length ≤ 1000 := by
  refine Ay (Post := fun v => v.1.fEntries.length ≤ 1000) ?_
  unfold Ki
  simp only [jn]
  obtain ⟨v2, e2, ok⟩ := Vy c
  obtain ⟨v4, e4, ok4⟩ := Kb x
  refine ⟨v2, e2, fun _ => by simp, fun h2 => ⟨v4, e4, fun _ => by simp, fun h4 => ?_⟩⟩
  obtain ⟨hs, ht, hlo, hl, hx⟩ := ok (by simpa using h2)
  obtain ⟨v6, e6⟩ := XE c.fTotal x.fWeight
  obtain ⟨v7, e7, h70, h71⟩ := Bl c.fEntries x.fKey (by omega)
  refine ⟨by omega, v6, e6, v7, e7, fun h => ?_, fun h => ⟨fun h3 => ?_, fun h3 => ?_⟩⟩
  · have h' : 0 ≤ v7 := by simpa using h
    obtain ⟨y, hy, _⟩ := Kl (l := c.fEntries) (n := v7) h' h71
    obtain ⟨z, hz⟩ := XE y.fCount x.fWeight
    exact ⟨y, hy, z, hz, y, hy, by simp; omega⟩
  · obtain ⟨r, hr, hr2⟩ := DI c.fEntries (Q3.mk (x.fKey) (x.fWeight) (0)) (by omega)
    exact ⟨r, hr, hr2⟩
  · refine Kc (I := fun k s => ∃ j : Nat, s.2.1 = (j : Int) ∧ j ≤ c.fEntries.length ∧ k = c.fEntries.length - j ∧ s.2.2 = c.fEntries) ?_ (k := c.fEntries.length) ⟨0, rfl, by omega, by omega, rfl⟩
    rintro k ⟨n, i, l⟩ ⟨j, hj, hj1, hk, hl2⟩ X hX
    simp only at hj hl2 ⊢
    subst hj; subst hl2
    refine ⟨fun h => ?_, fun _ => ?_⟩
    · have hj2 : j < c.fEntries.length := by simp at h; omega
      obtain ⟨y, hy⟩ := Yj hj2
      refine ⟨y, hy, ?_⟩
      rw [Zr (by omega)]
      exact hX (c.fEntries.length - (j + 1)) _ (by omega) ⟨j + 1, by simp, by omega, rfl, rfl⟩
    · obtain ⟨v18, e18, l18⟩ := Ih c.fEntries n (by omega)
      obtain ⟨v19, e19⟩ := XE c.fLost n
      obtain ⟨r, hr, hr2⟩ := DI v18 (Q3.mk (x.fKey) (IntKind.i64.wrap ((x.fWeight) - n)) (0)) (by omega)
      exact ⟨v18, e18, v19, e19, fun _ => ⟨r, hr, hr2⟩, fun _ => (show v18.length ≤ 1000 by omega)⟩
theorem GN (w : Int) : ∃ r, Y1 w r ∧ r.length ≤ 63 ∧ ∀ x ∈ r, 0 ≤ x ∧ x ≤ 62 := by
  refine Gx (Post := fun r => r.length ≤ 63 ∧ ∀ x ∈ r, 0 ≤ x ∧ x ≤ 62) ?_
  unfold X0
  simp only [jn]
  refine Kc (I := fun k s => ∃ j : Nat, s.2 = (j : Int) ∧ j ≤ 63 ∧ k = 63 - j ∧ s.1.length ≤ j ∧ ∀ x ∈ s.1, 0 ≤ x ∧ x ≤ 62) ?_ (k := 63) ⟨0, rfl, by omega, by omega, by simp, by simp⟩
  rintro k ⟨a, i⟩ ⟨j, hj, hj1, hk, ha, hx⟩ X hX
  simp only at hj ha hx ⊢
  subst hj
  refine ⟨fun h => ?_, fun _ => ⟨by omega, hx⟩⟩
  have hj2 : j < 63 := by
    cases hd : decide ((j : Int) < 63) with
    | true => simp at hd; omega
    | false => rw [hd] at h; cases h
  rw [Zr (by omega)]
  refine ⟨by rw [An (by omega)]; omega, fun _ => ⟨by simp; omega, ?_⟩, fun _ => ?_⟩
  · refine hX (63 - (j + 1)) _ (by omega) ⟨j + 1, by simp, by omega, rfl, by simp; omega, ?_⟩
    intro x hx2
    rcases List.mem_append.1 hx2 with h | h
    · exact hx x h
    · simp at h; omega
  · exact hX (63 - (j + 1)) _ (by omega) ⟨j + 1, by simp, by omega, rfl, by simp only; omega, hx⟩
theorem GO (l : List ByteArray) (hl : l.length ≤ 1000000) : ∃ r, Xb l r ∧ r.length = l.length := by
  refine Gz (Post := fun r => r.length = l.length) ?_
  unfold Xa
  simp only [jn]
  refine Kc (I := fun k s => ∃ j : Nat, s.2 = (j : Int) ∧ j ≤ l.length ∧ k = l.length - j ∧ s.1.length = j) ?_ (k := l.length) ⟨0, rfl, by omega, by omega, rfl⟩
  rintro k ⟨a, i⟩ ⟨j, hj, hj1, hk, ha⟩ X hX
  simp only at hj ha ⊢
  subst hj
  refine ⟨fun h => ?_, fun h => by simp at h; omega⟩
  have hj2 : j < l.length := by simp at h; omega
  obtain ⟨x, hx⟩ := Yj hj2
  refine ⟨x, hx, by simp; omega, ?_⟩
  have w0 : IntKind.i64.wrap (((a ++ [x]).length : Int) - 1) = (j : Int) := by simp [ha]; rw [Zr (by omega)]
  rw [w0]
  refine Kc (I := fun k s => ∃ m : Nat, s.2 = (m : Int) ∧ m ≤ j ∧ k = m ∧ s.1.length = j + 1) ?_ (k := j) ⟨j, rfl, by omega, rfl, by simp [ha]⟩
  rintro k2 ⟨b, i2⟩ ⟨m, hm, hm1, hk2, hb⟩ X2 hX2
  simp only at hm hb ⊢
  subst hm
  have done : X (b, IntKind.i64.wrap ((j : Int) + 1)) := by
    rw [Zr (by omega)]
    exact hX (l.length - (j + 1)) _ (by omega) ⟨j + 1, by simp, by omega, rfl, hb⟩
  by_cases h0 : m = 0
  · subst h0
    exact ⟨x, fun h => by simp at h, x, fun h => by simp at h, fun h => by simp at h, fun _ => done⟩
  · obtain ⟨p, hp⟩ := Yj (l := b) (j := m) (by omega)
    obtain ⟨q, hq⟩ := Yj (l := b) (j := m - 1) (by omega)
    have wm : IntKind.i64.wrap ((m : Int) - 1) = ((m - 1 : Nat) : Int) := by rw [Zr (by omega)]; omega
    obtain ⟨z, hz⟩ := Yj (l := List.set b (Int.toNat (m : Int)) q) (j := m - 1) (by simp; omega)
    rw [wm]
    refine ⟨p, fun _ => hp, q, fun _ => hq, fun _ => ⟨q, hq, p, hp, p, hp, z, hz, ?_⟩, fun _ => done⟩
    exact hX2 (m - 1) _ (by omega) ⟨m - 1, rfl, by omega, rfl, by simpa using hb⟩
theorem tdiv8 {a : Int} (h : 0 ≤ a) : a.tdiv 8 = a / 8 := Int.tdiv_eq_ediv_of_nonneg h
theorem Mh (l : List Int) (p : Int) (hl : l.length ≤ 1000000) (h1 : p ≤ 4611686018427387904) (h2 : -4611686018427387904 ≤ p) : ∃ v, W4 l p v ∧ 0 ≤ v ∧ v ≤ 1 := by
  refine M2 (Post := fun v => 0 ≤ v ∧ v ≤ 1) ?_
  unfold W3
  simp only [bA1, JL]
  refine ⟨fun _ => by omega, fun h => ?_⟩
  have h0 : 0 ≤ p := by
    cases hd : decide (p < 0) with
    | false => simpa using hd
    | true => rw [hd] at h; cases h
  have hw : IntKind.i64.wrap (p.tdiv 8) = p / 8 := by rw [tdiv8 h0, Zr (by omega)]
  rw [hw] at h ⊢
  have h3 : p / 8 < l.length := by
    have := (Bool.or_eq_false_iff.1 h).2
    simpa using this
  obtain ⟨x, hx, _⟩ := Kl (l := l) (n := p / 8) (by omega) h3
  refine ⟨x, hx, ?_, by omega⟩
  rw [KC h0, Zr (by omega), An (by omega)]; omega
end Go.Proofs.YthlaenafkihjiaaGreat
namespace Go.Proofs.YthlaenafkihjiaaGreat
open Go.RowKit
set_option linter.unusedVariables false
set_option linter.unusedSimpArgs false
theorem GP (a0 : List (List ByteArray)) (a1 a2 : Int) (a3 : List Int) (a4 : Int) (h0 : a0.length ≤ 1000) (hM : ∀ l ∈ a0, l.length ≤ 1000) (h3 : a3.length ≤ 1000000) (h4 : 0 ≤ a4 ∧ a4 ≤ 1073741824) :
    ∃ r, Y2 a0 a1 a2 a3 a4 r ∧ r.1.length ≤ 3000 ∧ ∀ l ∈ r.1, l.length ≤ 3000 := by
  refine GB (Post := fun r => r.1.length ≤ 3000 ∧ ∀ l ∈ r.1, l.length ≤ 3000) ?_
  unfold Xc
  simp only [jn]
  have trim : ∀ (sl po : Int) (out : List (List ByteArray)), out.length ≤ 3000 → (∀ l ∈ out, l.length ≤ 3000) →
      lp (fun (X24 : (List (List ByteArray)) → Prop) (s24 : (List (List ByteArray))) => ∃ (v26 : (List ByteArray)), ((decide ((((s24).length : Int)) > (0))) = true → ix (s24) (IntKind.i64.wrap ((((s24).length : Int)) - (1))) v26) ∧ ((((bif decide ((((s24).length : Int)) > (0)) then ((((v26).length : Int)) == (0)) else false)) = true → ((0 : Int) ≤ (IntKind.i64.wrap ((((s24).length : Int)) - (1))) ∧ (IntKind.i64.wrap ((((s24).length : Int)) - (1)) : Int) ≤ ((s24).length : Int)) ∧ X24 ((List.take (Int.toNat (IntKind.i64.wrap ((((s24).length : Int)) - (1)))) (s24)))) ∧ (((bif decide ((((s24).length : Int)) > (0)) then ((((v26).length : Int)) == (0)) else false)) = false → s24.length ≤ 3000 ∧ ∀ l ∈ s24, l.length ≤ 3000))) out := by
    intro sl po out ho hl
    refine Kc (I := fun k s => s.length ≤ 3000 ∧ (∀ l ∈ s, l.length ≤ 3000) ∧ k = s.length) ?_ (k := out.length) ⟨ho, hl, rfl⟩
    rintro k s ⟨hs, hl, hk⟩ X hX
    by_cases hz : s.length = 0
    · refine ⟨[], fun h => by simp [hz] at h, fun h => by simp [hz] at h, fun _ => ⟨hs, hl⟩⟩
    · have w : IntKind.i64.wrap ((s.length : Int) - 1) = ((s.length - 1 : Nat) : Int) := by rw [Zr (by omega)]; omega
      rw [w]
      obtain ⟨x, hx⟩ := Yj (l := s) (j := s.length - 1) (by omega)
      refine ⟨x, fun _ => hx, fun _ => ⟨by omega, ?_⟩, fun _ => ⟨hs, hl⟩⟩
      refine hX (s.length - 1) _ (by omega) ⟨by simp; omega, fun l h => hl l (List.mem_of_mem_take h), by simp⟩
  refine Kc (I := fun k s => ∃ i : Nat, s.2.2.2.2 = (i : Int) ∧ s.2.2.2.1.length ≤ 1000 ∧ i + s.2.2.2.1.length ≤ a0.length + 1000 ∧ s.2.2.1.length = i ∧ (∀ l ∈ s.2.2.1, l.length ≤ 3000) ∧ (a4 ≤ s.2.1 ∧ s.2.1 ≤ a4 + i) ∧ k = (a0.length - i) * 1001 + s.2.2.2.1.length) ?_ (k := a0.length * 1001) ⟨0, rfl, by simp, by simp, rfl, by simp, by simp, by simp⟩
  rintro k ⟨sl, po, out, carry, i'⟩ ⟨i, hi, hc, hic, hout, hlen, hpo, hk⟩ X hX
  simp only at hi hc hic hout hlen hpo hk ⊢
  subst hi
  refine ⟨fun h => ?_, fun _ => trim sl po out (by omega) hlen⟩
  have tail : ∀ merged : List ByteArray, merged.length ≤ 2000 → (i < a0.length ∨ (merged.length = carry.length ∧ 0 < carry.length)) →
      ∃ v9, Xb merged v9 ∧ ((decide ((v9.length : Int) < a1) = true → (out.length + [v9].length) * 24 ≤ 140737488355328 ∧ X (sl, po, out ++ [v9], [], IntKind.i64.wrap ((i : Int) + 1))) ∧
        (decide ((v9.length : Int) < a1) = false → ∃ v13, W4 a3 po v13 ∧
          lp (fun (X14 : (List (List ByteArray)) × (List ByteArray) × (List ByteArray) × Int → Prop) (s14 : (List (List ByteArray)) × (List ByteArray) × (List ByteArray) × Int) => (((decide ((s14.2.2.2) < (IntKind.i64.wrap ((IntKind.i64.wrap ((((v9).length : Int)).tdiv (2))) * (2))))) = true → ∃ (v17 : ByteArray), ix (s14.2.2.1) (s14.2.2.2) v17 ∧ (((s14.2.1).length + ([(v17)]).length) * 16 ≤ 140737488355328) ∧ X14 ((s14.1), ((s14.2.1) ++ ([(v17)])), (s14.2.2.1), (IntKind.i64.wrap ((s14.2.2.2) + (2))))) ∧ ((decide ((s14.2.2.2) < (IntKind.i64.wrap ((IntKind.i64.wrap ((((v9).length : Int)).tdiv (2))) * (2))))) = false →
            ((0 : Int) ≤ (IntKind.u64.wrap (i : Int))) ∧ ∃ (v20 : Int × Bool), Ji sl (Va .i64 (1) (IntKind.u64.wrap (i : Int))) v20 ∧ ((0 : Int) ≤ (IntKind.i64.wrap ((IntKind.i64.wrap ((((v9).length : Int)).tdiv (2))) * (2))) ∧ (IntKind.i64.wrap ((IntKind.i64.wrap ((((v9).length : Int)).tdiv (2))) * (2)) : Int) ≤ (((List.map eS (s14.2.2.1)).length : Nat) : Int)) ∧ (((s14.1).length + ([(List.take ((List.map eS (s14.2.2.1)).length - Int.toNat (IntKind.i64.wrap ((IntKind.i64.wrap ((((v9).length : Int)).tdiv (2))) * (2)))) (List.drop (0 + Int.toNat (IntKind.i64.wrap ((IntKind.i64.wrap ((((v9).length : Int)).tdiv (2))) * (2)))) (s14.2.2.1)))]).length) * 24 ≤ 140737488355328) ∧ X ((v20.1), (IntKind.i64.wrap (po + (1))), ((s14.1) ++ ([(List.take ((List.map eS (s14.2.2.1)).length - Int.toNat (IntKind.i64.wrap ((IntKind.i64.wrap ((((v9).length : Int)).tdiv (2))) * (2)))) (List.drop (0 + Int.toNat (IntKind.i64.wrap ((IntKind.i64.wrap ((((v9).length : Int)).tdiv (2))) * (2)))) (s14.2.2.1)))])), (s14.2.1), IntKind.i64.wrap ((i : Int) + 1))))) (out, ([] : (List ByteArray)), v9, v13))) := by
    intro merged hm hpr
    obtain ⟨v9, e9, l9⟩ := GO merged (by omega)
    have hw1 : IntKind.i64.wrap ((i : Int) + 1) = ((i + 1 : Nat) : Int) := by rw [Zr (by omega)]; omega
    have ht : (v9.length : Int).tdiv 2 = ((v9.length / 2 : Nat) : Int) := by rw [Int.tdiv_eq_ediv_of_nonneg (by omega)]; omega
    have hw2 : IntKind.i64.wrap (IntKind.i64.wrap ((v9.length : Int).tdiv 2) * 2) = ((v9.length / 2 * 2 : Nat) : Int) := by
      rw [ht, Zr (n := ((v9.length / 2 : Nat) : Int)) (by omega), Zr (by omega)]; omega
    have hmeas : ∀ c : Nat, c ≤ v9.length / 2 → (a0.length - (i + 1)) * 1001 + c < k ∧ i + 1 + c ≤ a0.length + 1000 ∧ c ≤ 1000 := by
      intro c hcc
      rcases hpr with h | ⟨h, h'⟩
      · refine ⟨?_, by omega, by omega⟩
        have : a0.length - i = (a0.length - (i + 1)) + 1 := by omega
        rw [hk, this, Nat.add_mul]; omega
      · have hle : a0.length - (i + 1) ≤ a0.length - i := by omega
        have hle2 := Nat.mul_le_mul_right 1001 hle
        refine ⟨by omega, by omega, by omega⟩
    refine ⟨v9, e9, ?_⟩
    rw [hw1, hw2]
    refine ⟨fun h => ⟨by simp; omega, ?_⟩, fun h => ?_⟩
    · obtain ⟨m1, m2, m3⟩ := hmeas 0 (by omega)
      refine hX _ _ m1 ⟨i + 1, rfl, by simp, by simpa using m2, by simp [hout], ?_, by simp only; omega, rfl⟩
      intro l hl
      rcases List.mem_append.1 hl with h | h
      · exact hlen l h
      · simp at h; rw [h]; omega
    · obtain ⟨v13, e13, b0, b1⟩ := Mh a3 po h3 (by omega) (by omega)
      refine ⟨v13, e13, ?_⟩
      refine Kc (I := fun k s => ∃ h : Nat, s.1 = out ∧ s.2.1.length = h ∧ s.2.2.1 = v9 ∧ s.2.2.2 = v13 + 2 * (h : Int) ∧ h ≤ v9.length / 2 ∧ k = v9.length / 2 - h) ?_ (k := v9.length / 2) ⟨0, rfl, rfl, rfl, by simp, by omega, by omega⟩
      rintro k14 ⟨o, half, v, kk⟩ ⟨nh, ho, hh, hv, hkk, hle, hk14⟩ X14 hX14
      simp only at ho hh hv hkk ⊢
      subst ho; subst hv
      refine ⟨fun hlt => ?_, fun hge => ?_⟩
      · have hlt' : kk < ((v.length / 2 * 2 : Nat) : Int) := by simpa using hlt
        obtain ⟨y, hy, _⟩ := Kl (l := v) (n := kk) (by omega) (by omega)
        refine ⟨y, hy, by simp; omega, ?_⟩
        rw [Zr (by omega)]
        exact hX14 (v.length / 2 - (nh + 1)) _ (by omega) ⟨nh + 1, rfl, by simp [hh], rfl, by simp only; omega, by omega, rfl⟩
      · obtain ⟨v20, e20⟩ := XE sl (Va .i64 (1) (IntKind.u64.wrap (i : Int)))
        refine ⟨(Bw _).1, v20, e20, ⟨by omega, by simp; omega⟩, by simp; omega, ?_⟩
        rw [Zr (n := po + 1) (by omega)]
        obtain ⟨m1, m2, m3⟩ := hmeas half.length (by omega)
        refine hX _ _ m1 ⟨i + 1, rfl, m3, m2, by simp [hout], ?_, by simp only; omega, rfl⟩
        intro l hl
        rcases List.mem_append.1 hl with h | h
        · exact hlen l h
        · simp only [List.mem_singleton] at h; rw [h, List.length_take, List.length_drop]; omega
  refine ⟨fun h2 => ?_, fun h2 => ?_⟩
  · have hi2 : i < a0.length := by simp at h2; omega
    obtain ⟨x, hx, hg⟩ := Kl (l := a0) (n := (i : Int)) (by omega) (by omega)
    have hxl : x.length ≤ 1000 := hM x (List.mem_of_getElem? hg)
    exact ⟨x, hx, by omega, by omega, tail (x ++ carry) (by simp; omega) (.inl hi2)⟩
  · have hi2 : ¬ i < a0.length := by simp at h2; omega
    have hcp : 0 < carry.length := by
      rw [h2] at h; simp at h
      rcases Nat.eq_zero_or_pos carry.length with h' | h'
      · simp_all
      · exact h'
    exact tail carry (by omega) (.inr ⟨rfl, hcp⟩)
end Go.Proofs.YthlaenafkihjiaaGreat
namespace Go.Proofs.YthlaenafkihjiaaGreat
open Go.RowKit
set_option linter.unusedVariables false
set_option linter.unusedSimpArgs false
theorem CF (c : QI) (x : Qb) (a2 : List Int) (a3 : Int) (h3 : a2.length ≤ 1000000) : ∃ v, JE c x a2 a3 v ∧ v.1.fLevels.length ≤ 3000 ∧ ∀ l ∈ v.1.fLevels, l.length ≤ 3000 := by
  refine Cq (Post := fun v => v.1.fLevels.length ≤ 3000 ∧ ∀ l ∈ v.1.fLevels, l.length ≤ 3000) ?_
  unfold KU
  simp only [jn]
  obtain ⟨v2, e2, ok⟩ := XD c
  obtain ⟨v4, e4, ok4⟩ := Kb x
  refine ⟨v2, e2, fun _ => by simp, fun h2 => ⟨v4, e4, fun _ => by simp, fun h4 => ⟨_, rfl, fun _ => by simp, fun h5 => ?_⟩⟩⟩
  obtain ⟨hs, ht, hsl, hll, hx⟩ := ok (by simpa using h2)
  have hp : 0 ≤ a3 ∧ a3 ≤ 1073741824 := by
    rw [Jh] at h5; simpa using h5
  obtain ⟨v7, e7⟩ := XE c.fTotal x.fWeight
  have hlev : ∀ l ∈ c.fLevels, l.length ≤ 100 := fun l hl => by have := (hx l hl).1; omega
  refine ⟨v7, e7, fun _ => ⟨(show c.fLevels.length ≤ 3000 by omega), fun l hl => by have := hlev l hl; omega⟩, fun _ => ⟨by omega, ?_⟩⟩
  obtain ⟨v10, e10, l10, r10⟩ := GN x.fWeight
  refine ⟨v10, e10, ?_⟩
  refine Kc (I := fun k s => ∃ j : Nat, s.2.2 = (j : Int) ∧ j ≤ v10.length ∧ s.2.1 = v10 ∧ k = v10.length - j ∧ s.1.length ≤ 200 ∧ ∀ l ∈ s.1, l.length ≤ 100 + j) ?_ (k := v10.length) ⟨0, rfl, by omega, rfl, by omega, by simp only; omega, by simpa using hlev⟩
  rintro k ⟨L, P, i⟩ ⟨j, hj, hj1, hP, hk, hL, hLl⟩ X hX
  simp only at hj hP hL hLl ⊢
  subst hj; subst hP
  refine ⟨fun h => ?_, fun _ => ?_⟩
  · have hj2 : j < P.length := by simp at h; omega
    obtain ⟨q, hq, hqg⟩ := Kl (l := P) (n := (j : Int)) (by omega) (by omega)
    have hqr := r10 q (List.mem_of_getElem? hqg)
    refine Kc (I := fun k s => s.2 = P ∧ s.1.length ≤ 200 ∧ (∀ l ∈ s.1, l.length ≤ 100 + j) ∧ k = 201 - s.1.length) ?_ (k := 201 - L.length) ⟨rfl, hL, hLl, rfl⟩
    rintro k2 ⟨L2, P2⟩ ⟨hP2, hL2, hL2l, hk2⟩ X2 hX2
    simp only at hP2 hL2 hL2l hk2 ⊢
    subst hP2
    refine ⟨q, hq, fun h => ⟨by simp; omega, ?_⟩, fun h => ?_⟩
    · have h' : (L2.length : Int) ≤ q := by simpa using h
      refine hX2 (201 - (L2 ++ [[]]).length) _ (by simp; omega) ⟨rfl, by simp; omega, fun l hl => ?_, rfl⟩
      rcases List.mem_append.1 hl with h | h
      · exact hL2l l h
      · simp at h; rw [h]; simp
    · have h' : q < L2.length := by simpa using h
      obtain ⟨y, hy, hyg⟩ := Kl (l := L2) (n := q) (by omega) h'
      have hyl := hL2l y (List.mem_of_getElem? hyg)
      refine ⟨q, hq, q, hq, y, hy, by omega, by simp; omega, y, hy, ?_⟩
      rw [Zr (by omega)]
      refine hX (P2.length - (j + 1)) _ (by omega) ⟨j + 1, by simp, by omega, rfl, rfl, by simpa using hL2, fun l hl => ?_⟩
      rcases List.mem_or_eq_of_mem_set hl with h | h
      · have := hL2l l h; omega
      · rw [h]; simp; omega
  · obtain ⟨v26, e26, a26, b26⟩ := GP L c.fSize c.fSlack a2 a3 (by omega) (fun l hl => by have := hLl l hl; omega) h3 hp
    exact ⟨v26, e26, a26, b26⟩
def zSk : Qw := Qw.mk (Qn.mk (0) (0) (0) (0)) (QS.mk (0) (0) (false)) (Qx.mk (0) (0) (0) ([] : (List Int)) (false)) (QH.mk (0) (0) ([] : (List Int))) (QW.mk (0) (0) ([] : (List Q3)) (false)) (QB.mk (0) (0) (0) ([] : (List Q3)) (false)) (QI.mk (0) (0) (0) ([] : (List (List ByteArray))) (false))
theorem Ii : Lo zSk := by simp [Lo, zSk]
theorem Gg (s : Qw) (x : Qb) (a2 : List Int) (a3 : Int) (h : Lo s) (h2 : a2.length ≤ 1000000) : ∃ v, Xx s x a2 a3 v ∧ Lo v.1 := by
  refine FU (Post := fun v => Lo v.1) ?_
  unfold Vn
  simp only [jn]
  obtain ⟨v2, e2, _⟩ := UO s h
  obtain ⟨v4, e4, _⟩ := Kb x
  obtain ⟨z1, z2, z3, z4, z5, z6⟩ := h
  refine ⟨v2, e2, fun _ => Ii, fun _ => ⟨v4, e4, fun _ => Ii, fun _ => ⟨_, rfl, fun _ => Ii, fun _ => ?_⟩⟩⟩
  obtain ⟨u1, t1⟩ := CE s.fTally x
  obtain ⟨u2, t2, q2⟩ := AF s.fCountMin x
  obtain ⟨u3, t3, q3⟩ := BJ s.fLogLog x
  obtain ⟨u4, t4, q4⟩ := Eh s.fTop x
  obtain ⟨u5, t5, q5⟩ := AG s.fFrequent x
  obtain ⟨u6, t6, q6, q7⟩ := CF s.fRanks x a2 a3 h2
  refine ⟨fun _ => ⟨u1, t1, z1, z2, z3, z4, z5, z6⟩, fun _ => ⟨fun _ => ⟨u2, t2, ?_, z2, z3, z4, z5, z6⟩, fun _ => ⟨fun _ => ⟨u3, t3, z1, ?_, z3, z4, z5, z6⟩, fun _ => ⟨fun _ => ⟨u4, t4, z1, z2, ?_, z4, z5, z6⟩, fun _ => ⟨fun _ => ⟨u5, t5, z1, z2, z3, ?_, z5, z6⟩, fun _ => ⟨u6, t6, z1, z2, z3, z4, ?_, ?_⟩⟩⟩⟩⟩⟩
  · simp only; omega
  · simp only; omega
  · simp only; omega
  · simp only; omega
  · simp only; omega
  · intro l hl; have := q7 l hl; omega
theorem CG (a b d : Int) : ∃ v, JB a b d v ∧ v.1.fCells.length ≤ 1000 := by
  refine Ci (Post := fun v => v.1.fCells.length ≤ 1000) ?_
  unfold KR
  simp only [ZT, exists_eq_left, JL]
  refine ⟨_, fun _ => rfl, fun _ => by simp, fun h => ?_⟩
  have h' : (1 ≤ a ∧ a ≤ 8) ∧ 1 ≤ b ∧ b ≤ 64 := by simpa [wI] using h
  have hm := Ic h'.1 h'.2
  rw [Zr (by omega)]
  exact ⟨⟨by omega, by omega⟩, by simp; omega⟩
theorem Ei (a b : Int) : ∃ v, Vl a b v ∧ v.1.fRegisters.length ≤ 1000 := by
  refine E4 (Post := fun v => v.1.fRegisters.length ≤ 1000) ?_
  unfold Ju
  simp only [ZT, exists_eq_left]
  refine ⟨fun _ => by simp, fun h => ?_⟩
  have h' : 2 ≤ a ∧ a ≤ 8 := by simpa [wI] using h
  have hm := ON h'
  exact ⟨(Bw _).1, ⟨by omega, by omega⟩, by simp; omega⟩
theorem GQ (a : Int) : ∃ v, XZ a v ∧ v.1.fEntries.length ≤ 1000 := by
  refine Gt (Post := fun v => v.1.fEntries.length ≤ 1000) ?_
  unfold VY
  simp only [ZT, exists_eq_left]
  exact ⟨fun _ => by simp, fun _ => by simp⟩
theorem CH (a : Int) : ∃ v, JC a v ∧ v.1.fEntries.length ≤ 1000 := by
  refine Ck (Post := fun v => v.1.fEntries.length ≤ 1000) ?_
  unfold KS
  simp only [ZT, exists_eq_left]
  exact ⟨fun _ => by simp, fun _ => by simp⟩
theorem F2 (a : Int) : ∃ v, VR a v ∧ v.1.fLevels = [] := by
  refine EP (Post := fun v => v.1.fLevels = []) ?_
  unfold JR
  simp only [ZT, exists_eq_left]
  exact ⟨fun _ => by simp, fun _ => by simp⟩
theorem Lp (p : Qn) : ∃ v, Wo p v ∧ Lo v.1 := by
  refine IX (Post := fun v => Lo v.1) ?_
  unfold Yp
  simp only [jn]
  obtain ⟨u2, t2, q2⟩ := CG p.fDepth p.fSize p.fSeed
  obtain ⟨u3, t3, q3⟩ := Ei p.fSize p.fSeed
  obtain ⟨u4, t4, q4⟩ := GQ p.fSize
  obtain ⟨u5, t5, q5⟩ := CH p.fSize
  obtain ⟨u6, t6, q6⟩ := F2 p.fSize
  refine ⟨_, VM p, fun _ => Ii, fun _ => ⟨fun _ => ⟨u2, t2, ?_⟩, fun _ => ⟨fun _ => ⟨u3, t3, ?_⟩, fun _ => ⟨fun _ => ⟨u4, t4, ?_⟩, fun _ => ⟨fun _ => ⟨u5, t5, ?_⟩, fun _ => ⟨fun _ => ⟨u6, t6, ?_⟩, fun _ => ?_⟩⟩⟩⟩⟩⟩ <;> simp [Lo] <;> try omega
  rw [q6]; simp
theorem Lq (p : Qn) (l : List Qb) (cs : List Int) (hl : l.length ≤ 1000000) (hc : cs.length ≤ 1000000) : ∃ s, Wq p l cs s ∧ Lo s := by
  refine Lc (Post := fun s => Lo s) ?_
  unfold Yt
  simp only [jn]
  obtain ⟨v1, e1, z⟩ := Lp p
  refine ⟨v1, e1, ?_⟩
  refine Kc (I := fun k s => ∃ j : Nat, s.2.1 = (j : Int) ∧ j ≤ l.length ∧ k = l.length - j ∧ Lo (Qw.mk (Qn.mk (s.2.2.1) (s.2.2.2.1) (s.2.2.2.2.1) (s.2.2.2.2.2.1)) (QS.mk (s.2.2.2.2.2.2.1) (s.2.2.2.2.2.2.2.1) (s.2.2.2.2.2.2.2.2.1)) (Qx.mk (s.2.2.2.2.2.2.2.2.2.1) (s.2.2.2.2.2.2.2.2.2.2.1) (s.2.2.2.2.2.2.2.2.2.2.2.1) (s.2.2.2.2.2.2.2.2.2.2.2.2.1) (s.2.2.2.2.2.2.2.2.2.2.2.2.2.1)) (QH.mk (s.2.2.2.2.2.2.2.2.2.2.2.2.2.2.1) (s.2.2.2.2.2.2.2.2.2.2.2.2.2.2.2.1) (s.2.2.2.2.2.2.2.2.2.2.2.2.2.2.2.2.1)) (QW.mk (s.2.2.2.2.2.2.2.2.2.2.2.2.2.2.2.2.2.1) (s.2.2.2.2.2.2.2.2.2.2.2.2.2.2.2.2.2.2.1) (s.2.2.2.2.2.2.2.2.2.2.2.2.2.2.2.2.2.2.2.1) (s.2.2.2.2.2.2.2.2.2.2.2.2.2.2.2.2.2.2.2.2.1)) (QB.mk (s.2.2.2.2.2.2.2.2.2.2.2.2.2.2.2.2.2.2.2.2.2.1) (s.2.2.2.2.2.2.2.2.2.2.2.2.2.2.2.2.2.2.2.2.2.2.1) (s.2.2.2.2.2.2.2.2.2.2.2.2.2.2.2.2.2.2.2.2.2.2.2.1) (s.2.2.2.2.2.2.2.2.2.2.2.2.2.2.2.2.2.2.2.2.2.2.2.2.1) (s.2.2.2.2.2.2.2.2.2.2.2.2.2.2.2.2.2.2.2.2.2.2.2.2.2.1)) (QI.mk (s.2.2.2.2.2.2.2.2.2.2.2.2.2.2.2.2.2.2.2.2.2.2.2.2.2.2.1) (s.2.2.2.2.2.2.2.2.2.2.2.2.2.2.2.2.2.2.2.2.2.2.2.2.2.2.2.1) (s.2.2.2.2.2.2.2.2.2.2.2.2.2.2.2.2.2.2.2.2.2.2.2.2.2.2.2.2.1) (s.2.2.2.2.2.2.2.2.2.2.2.2.2.2.2.2.2.2.2.2.2.2.2.2.2.2.2.2.2.1) (s.2.2.2.2.2.2.2.2.2.2.2.2.2.2.2.2.2.2.2.2.2.2.2.2.2.2.2.2.2.2)))) ?_ (k := l.length) ⟨0, rfl, by omega, by omega, z⟩
  rintro k s ⟨j, hj, hj1, hk, hz⟩ X hX
  rw [hj]
  refine ⟨fun h => ?_, fun _ => hz⟩
  have hj2 : j < l.length := by simp at h; omega
  obtain ⟨x, hx⟩ := Yj hj2
  obtain ⟨v7, e7, z7⟩ := Gg _ x cs s.1 hz hc
  refine ⟨x, hx, v7, e7, ?_⟩
  rw [Zr (by omega)]
  exact hX (l.length - (j + 1)) _ (by omega) ⟨j + 1, by simp, by omega, rfl, z7⟩
theorem GR (l : List Int) (hl : l.length ≤ 4611686018427387904) : ∃ s, Y3 l s ∧ Lo s := by
  refine GD (Post := fun s => Lo s) ?_
  unfold Xd
  simp only [bA7]
  obtain ⟨v1, e1, _⟩ := WL l 0 hl (by omega) (by omega)
  obtain ⟨v2, e2, _⟩ := C0 v1
  obtain ⟨v4, e4, _⟩ := WL l 1 hl (by omega) (by omega)
  obtain ⟨v5, e5, l5, _⟩ := DC (List.drop (Int.toNat (XX (((l).length : Int)) (2))) l) (v4 % 8) (by simp; omega) (by omega) (by omega)
  obtain ⟨v6, e6, _⟩ := WL l 9 hl (by omega) (by omega)
  obtain ⟨v7, e7, l7⟩ := DD v6
  obtain ⟨v8, e8, z8⟩ := Lq v2 v5 v7 (by omega) (by omega)
  exact ⟨v1, e1, v2, e2, ⟨by unfold XX; split <;> omega, by unfold XX; split <;> omega⟩, v4, e4, v5, e5, v6, e6, v7, e7, v8, e8, z8⟩
end Go.Proofs.YthlaenafkihjiaaGreat
