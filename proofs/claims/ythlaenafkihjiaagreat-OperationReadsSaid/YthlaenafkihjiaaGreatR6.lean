/- Parts of the proof, laid together. No condition. -/
import Derived.Test.YthlaenafkihjiaaGreatR5
import Derived.Laws.Bits64
set_option linter.unusedVariables false
set_option linter.unusedSimpArgs false
namespace Go.Proofs.YthlaenafkihjiaaGreat
open Go.RowKit
set_option maxRecDepth 100000
set_option maxHeartbeats 4000000
def W5 (a0 : (List Int)) (Q : (Int × Int × Int) → Prop) : Prop :=
 ((((((a0.length : Int)) == 0)) = true → Q (0, 0, 3)) ∧ (((((a0.length : Int)) == 0)) = false → ∃ v3, ix a0 0 v3 ∧ (((decide (v3 < 248)) = true → ∃ v4, ix a0 0 v4 ∧ Q ((IntKind.i64.wrap v4), 1, 0)) ∧ ((decide (v3 < 248)) = false → ∃ v5, ix a0 0 v5 ∧ (((decide (((a0.length : Int)) ≤ (IntKind.i64.wrap ((IntKind.i64.wrap v5) - 247)))) = true → Q (0, 0, 3)) ∧ ((decide (((a0.length : Int)) ≤ (IntKind.i64.wrap ((IntKind.i64.wrap v5) - 247)))) = false → jn (fun (p7 : Int) => ∃ v13, ix a0 1 v13 ∧ ((((bif (bif (v13 == 0) then true else decide (p7 < 248)) then true else decide (p7 > 4611686018427387904))) = true → Q (0, 0, 2)) ∧ (((bif (bif (v13 == 0) then true else decide (p7 < 248)) then true else decide (p7 > 4611686018427387904))) = false → Q ((IntKind.i64.wrap p7), (IntKind.i64.wrap ((IntKind.i64.wrap ((IntKind.i64.wrap v5) - 247)) + 1)), 0)))) (fun (J7 : Int → Prop) => lp (fun (X8 : Int × Int → Prop) (s8 : Int × Int) => (((decide (s8.2 ≤ (IntKind.i64.wrap ((IntKind.i64.wrap v5) - 247)))) = true → ∃ v11, ix a0 s8.2 v11 ∧ X8 ((ME .u64 (V4 .u64 s8.1 8) (IntKind.u64.wrap v11)), (IntKind.i64.wrap (s8.2 + 1)))) ∧ ((decide (s8.2 ≤ (IntKind.i64.wrap ((IntKind.i64.wrap v5) - 247)))) = false → J7 s8.1))) (0, 1))))))))
def Vh (a0 : (List Int)) (r : Int × Int × Int) : Prop := W5 a0 fun x => r = x
theorem E6 (a0 : (List Int)) (r : Int × Int × Int) (h : Vh a0 r) : Qq Tryz.prog 49 [.c (.l 1 (List.map (eI .u8) a0))] [.c (.p (.v (.int .i64 r.1))), .c (.p (.v (.int .i64 r.2.1))), .c (.p (.v (.int .i64 r.2.2)))] [] := by
  refine Qp tb Tryz.func49 Z (by kernel_rfl) Z Z (Nat.le_of_ble_eq_true Z) Z ?_;intro E;unfold Vh W5 at h;refine Zj (fun Q hQ => ?_);refine tk fun L hL => Qf Z Z <| Qf Z Z <| Qf Z Z <| rt (hL _ ?_);refine sk fun L1 hL1 => tk fun L hL => mv Z <| u0 (Ql Z Z Z Z) <| u0 (Q4 (c := (((a0.length : Int)) == 0)) Z Z Z Z Z) <| rt (hL _ ?_);refine Z3 Z h (fun h => ?_) fun h => ?_
  · refine tk fun L hL => Qf Z Z <| Qf Z Z <| Qf Z Z <| rt (hL _ ?_);obtain rfl := h;exact Qa (hQ _ _ (HU Z Z Z Z))
  · refine Qc (hL1 _ ?_);refine sk fun L2 hL2 => tk fun L hL => mv Z ?_;obtain ⟨v3, hv3, h⟩ := h;refine u0 (Qx hv3 Z Z Z Z Z Z Z Z) <| u0 (Qo Z Z Z Z Z) <| u0 (Q4 (c := decide (v3 < 248)) Z Z Z Z Z) <| rt (hL _ ?_);refine Z3 Z h (fun h => ?_) fun h => ?_
    · refine tk fun L hL => mv Z ?_;obtain ⟨v4, hv4, h⟩ := h;refine u0 (Qx hv4 Z Z Z Z Z Z Z Z) <| u0 (Qo Z Z Z Z Z) <| u0 (Z5 (T := tb) Z Z Z Z Z Z) <| Qf Z Z <| Qf Z Z <| Qf Z Z <| rt (hL _ ?_);obtain rfl := h;exact Qa (hQ _ _ (HU Z Z Z Z))
    · refine Qc (hL2 _ ?_);refine tk fun L hL => mv Z ?_;obtain ⟨v5, hv5, h⟩ := h;refine u0 (Qx hv5 Z Z Z Z Z Z Z Z) <| u0 (Qo Z Z Z Z Z) <| u0 (Z5 (T := tb) Z Z Z Z Z Z) <| u0 (Zz Z Z Z Z Z) <| Qf Z Z <| rt (hL _ ?_);refine sk fun L6 hL6 => tk fun L hL => mv Z <| u0 (Ql Z Z Z Z) <| mv Z <| u0 (Q4 (c := decide (((a0.length : Int)) ≤ (IntKind.i64.wrap ((IntKind.i64.wrap v5) - 247)))) Z Z Z Z Z) <| rt (hL _ ?_);refine Z3 Z h (fun h => ?_) fun h => ?_
      · refine tk fun L hL => Qf Z Z <| Qf Z Z <| Qf Z Z <| rt (hL _ ?_);obtain rfl := h;exact Qa (hQ _ _ (HU Z Z Z Z))
      · refine Qc (hL6 _ ?_);refine tk fun L hL => Qf Z Z <| rt (hL _ ?_);refine Zg (fun (p7 : Int) => (⟨[(0, .c (.p (.l 1 (List.map (eI .u8) a0)))), (5, .c (.p (.v (.int .i64 (IntKind.i64.wrap ((IntKind.i64.wrap v5) - 247)))))), (6, .c (.p (.v (.int .u64 p7))))], []⟩ : St)) h (fun p7 h => ?_) (fun J7 L7 hL7 h => ?_)
        · refine sk fun L12 hL12 => tk fun L hL => mv Z ?_;obtain ⟨v13, hv13, h⟩ := h;refine u0 (Qx hv13 Z Z Z Z Z Z Z Z) <| u0 (Qo Z Z Z Z Z) <| u0 (Q4 (c := (v13 == 0)) Z Z Z Z Z) <| mv Z <| Q3 Z Z Q9 (fun hg => Qd Z Z) <| Q3 Z Z Q9 (fun hg => Q4 (c := decide (p7 < 248)) (Qe hg) Z Z Z Z) <| u0 (Qk (v := .bool true) (w := .bool (decide (p7 < 248))) Z Z Q9 Z QB Z Z Z) <| mv Z <| Q3 Z Z Q9 (fun hg => Qd Z Z) <| Q3 Z Z Q9 (fun hg => Q4 (c := decide (p7 > 4611686018427387904)) (Qe hg) Z Z Z Z) <| u0 (Qk (v := .bool true) (w := .bool (decide (p7 > 4611686018427387904))) Z Z Q9 Z QB Z Z Z) <| rt (hL _ ?_);refine Z3 Z h (fun h => ?_) fun h => ?_
          · refine tk fun L hL => Qf Z Z <| Qf Z Z <| Qf Z Z <| rt (hL _ ?_);obtain rfl := h;exact Qa (hQ _ _ (HU Z Z Z Z))
          · refine Qc (hL12 _ ?_);refine Z9 (st' := ⟨[(5, .c (.p (.v (.int .i64 (IntKind.i64.wrap ((IntKind.i64.wrap v5) - 247)))))), (6, .c (.p (.v (.int .u64 p7))))], []⟩) (QN.nm [5, 6] [] Z Z) ?_;refine tk fun L hL => mv Z <| u0 (Z5 (T := tb) Z Z Z Z Z Z) <| mv Z <| u0 (QF Z Z Z Z Z) <| Qf Z Z <| Qf Z Z <| Qf Z Z <| rt (hL _ ?_);obtain rfl := h;exact Qa (hQ _ _ (HU Z Z Z Z))
        · refine tk fun L hL => Qf Z Z <| rt (hL _ ?_);refine Qm ?_;refine ZA (fun (s8 : Int × Int) => (⟨[(0, .c (.p (.l 1 (List.map (eI .u8) a0)))), (5, .c (.p (.v (.int .i64 (IntKind.i64.wrap ((IntKind.i64.wrap v5) - 247)))))), (6, .c (.p (.v (.int .u64 s8.1)))), (7, .c (.p (.v (.int .i64 s8.2))))], []⟩ : St)) h (QN.nm [0, 5, 6, 7] [] Z (by kernel_rfl)) (fun X8 L8 hL8 s8 h => ?_);refine sk fun L9 hL9 => tk fun L hL => mv Z <| mv Z <| u0 (Q4 (c := decide (s8.2 ≤ (IntKind.i64.wrap ((IntKind.i64.wrap v5) - 247)))) Z Z Z Z Z) <| rt (hL _ ?_);refine Z3 Z h (fun h => ?_) fun h => ?_
          · refine Qc (hL9 _ ?_);refine sk fun L10 hL10 => Qm <| tl fun L hL => mv Z ?_;refine u0 (Cs (by decide) Z Z Z Z) ?_;refine mv Z <| mv Z ?_;obtain ⟨v11, hv11, h⟩ := h;refine u0 (Qx hv11 Z Z Z Z Z Z Z Z) <| u0 (Qo Z Z Z Z Z) <| u0 (Z5 (T := tb) Z Z Z Z Z Z) <| u0 (Za (z := .int .u64 (ME .u64 (V4 .u64 s8.1 8) (IntKind.u64.wrap v11))) Z Z Z Z Z) <| Qf Z Z <| rt (hL _ (hL10 _ ?_));refine tl fun L hL => mv Z <| u0 (QF Z Z Z Z Z) <| Qf Z Z ?_;refine rt (hL _ (hL8 _ _ h (QN.nm [0, 5, 6, 7] [] Z (by kernel_rfl))))
          · refine Z2 (hL7 _ _ h (QN.nm [0, 5, 6] [] Z (by kernel_rfl)))
def Up (a0 : (List Int)) (Q : (Int × (List Int) × Int × Int) → Prop) : Prop :=
 ((((((a0.length : Int)) == 0)) = true → Q (0, ([] : (List Int)), 0, 3)) ∧ (((((a0.length : Int)) == 0)) = false → ((0 : Int) ≤ 1 ∧ (1 : Int) ≤ (a0.length : Int)) ∧ ∃ v3, Vh (List.drop (Int.toNat 1) a0) v3 ∧ ((((v3.2.2 != 0)) = true → Q (0, ([] : (List Int)), 0, v3.2.2)) ∧ (((v3.2.2 != 0)) = false → (((decide (v3.1 > 1048576)) = true → Q (0, ([] : (List Int)), 0, 2)) ∧ ((decide (v3.1 > 1048576)) = false → (((decide (((a0.length : Int)) < (IntKind.i64.wrap ((IntKind.i64.wrap ((IntKind.i64.wrap (1 + v3.2.1)) + v3.1)) + 4)))) = true → Q (0, ([] : (List Int)), 0, 3)) ∧ ((decide (((a0.length : Int)) < (IntKind.i64.wrap ((IntKind.i64.wrap ((IntKind.i64.wrap (1 + v3.2.1)) + v3.1)) + 4)))) = false → ((0 : Int) ≤ (IntKind.i64.wrap (1 + v3.2.1)) ∧ (IntKind.i64.wrap (1 + v3.2.1) : Int) ≤ (IntKind.i64.wrap ((IntKind.i64.wrap (1 + v3.2.1)) + v3.1)) ∧ (IntKind.i64.wrap ((IntKind.i64.wrap (1 + v3.2.1)) + v3.1) : Int) ≤ (a0.length : Int)) ∧ ((List.drop (Int.toNat (IntKind.i64.wrap (1 + v3.2.1))) (List.take (Int.toNat (IntKind.i64.wrap ((IntKind.i64.wrap (1 + v3.2.1)) + v3.1))) a0)).length * 1 ≤ 140737488355328) ∧ ∃ v9, ix a0 0 v9 ∧ ∃ v10, Zw v9 (List.drop (Int.toNat (IntKind.i64.wrap (1 + v3.2.1))) (List.take (Int.toNat (IntKind.i64.wrap ((IntKind.i64.wrap (1 + v3.2.1)) + v3.1))) a0)) v10 ∧ jn (fun (p11 : (List Int) × (List Int)) => ∃ v17, ix a0 0 v17 ∧ Q (v17, p11.1, ((p11.2.length : Int)), 0)) (fun (J11 : (List Int) × (List Int) → Prop) => lp (fun (X12 : (List Int) × (List Int) × Int → Prop) (s12 : (List Int) × (List Int) × Int) => (((decide (s12.2.2 < ((s12.2.1.length : Int)))) = true → ∃ v15, ix s12.2.1 s12.2.2 v15 ∧ ∃ v16, ix a0 s12.2.2 v16 ∧ ((((v15 != v16)) = true → Q (0, ([] : (List Int)), 0, 4)) ∧ (((v15 != v16)) = false → X12 (s12.1, s12.2.1, (IntKind.i64.wrap (s12.2.2 + 1)))))) ∧ ((decide (s12.2.2 < ((s12.2.1.length : Int)))) = false → J11 (s12.1, s12.2.1)))) ((List.drop (Int.toNat (IntKind.i64.wrap (1 + v3.2.1))) (List.take (Int.toNat (IntKind.i64.wrap ((IntKind.i64.wrap (1 + v3.2.1)) + v3.1))) a0)), v10.1, (IntKind.i64.wrap (((v10.1.length : Int)) - 4))))))))))))
def JS (a0 : (List Int)) (r : Int × (List Int) × Int × Int) : Prop := Up a0 fun x => r = x
theorem BG (a0 : (List Int)) (r : Int × (List Int) × Int × Int) (h : JS a0 r) : Qq Tryz.prog 15 [.c (.l 1 (List.map (eI .u8) a0))] [.c (.p (.v (.int .u8 r.1))), .c (.own 1 (List.map (eI .u8) r.2.1)), .c (.p (.v (.int .i64 r.2.2.1))), .c (.p (.v (.int .i64 r.2.2.2)))] [] := by
  refine Qp tb Tryz.func15 Z (by kernel_rfl) Z Z (Nat.le_of_ble_eq_true Z) Z ?_;intro E;unfold JS Up at h;refine Zj (fun Q hQ => ?_);refine tk fun L hL => Qf Z Z <| Qf Z Z <| Qf Z Z <| Qf Z Z <| rt (hL _ ?_);refine sk fun L1 hL1 => tk fun L hL => mv Z <| u0 (Ql Z Z Z Z) <| u0 (Q4 (c := (((a0.length : Int)) == 0)) Z Z Z Z Z) <| rt (hL _ ?_);refine Z3 Z h (fun h => ?_) fun h => ?_
  · refine tk fun L hL => Qf Z Z <| Qf Z Z <| Qf Z Z <| Qf Z Z <| rt (hL _ ?_);obtain rfl := h;exact Qa (hQ _ _ ⟨.inr Z, _, _, _, (.cons (.p Z) (.cons (.p Z) (.cons (.p Z) (.cons (.p Z) .nil)))), (.cons (.c (.p _)) (.cons (.c (.nilo _ (Nat.le_of_ble_eq_true Z))) (.cons (.c (.p _)) (.cons (.c (.p _)) .nil)))), Z, Z⟩)
  · refine Qc (hL1 _ ?_);refine tk fun L hL => mv Z ?_;obtain ⟨hm2, h⟩ := h;refine u0 (Xj hm2 Z Z Z Z Z Z Z Z) ?_;obtain ⟨v3, hv3, h⟩ := h;refine u0 (Q7 (E6 _ _ hv3) Z Z (.cons (.c (.p _)) .nil) Z Z Z) <| u0 (QJ Z Z) <| u0 (Q8 Z Z Z) <| u0 (Q8 Z Z Z) <| u0 (Q8 Z Z Z) <| Qf Z Z <| Qf Z Z <| Qf Z Z <| rt (hL _ ?_);refine sk fun L4 hL4 => tk fun L hL => mv Z <| u0 (Q4 (c := (v3.2.2 != 0)) Z Z Z Z Z) <| rt (hL _ ?_);refine Z3 Z h (fun h => ?_) fun h => ?_
    · refine tk fun L hL => mv Z <| Qf Z Z <| Qf Z Z <| Qf Z Z <| Qf Z Z <| rt (hL _ ?_);obtain rfl := h;exact Qa (hQ _ _ ⟨.inr Z, _, _, _, (.cons (.p Z) (.cons (.p Z) (.cons (.p Z) (.cons (.p Z) .nil)))), (.cons (.c (.p _)) (.cons (.c (.nilo _ (Nat.le_of_ble_eq_true Z))) (.cons (.c (.p _)) (.cons (.c (.p _)) .nil)))), Z, Z⟩)
    · refine Qc (hL4 _ ?_);refine sk fun L5 hL5 => tk fun L hL => mv Z <| u0 (Q4 (c := decide (v3.1 > 1048576)) Z Z Z Z Z) <| rt (hL _ ?_);refine Z3 Z h (fun h => ?_) fun h => ?_
      · refine tk fun L hL => Qf Z Z <| Qf Z Z <| Qf Z Z <| Qf Z Z <| rt (hL _ ?_);obtain rfl := h;exact Qa (hQ _ _ ⟨.inr Z, _, _, _, (.cons (.p Z) (.cons (.p Z) (.cons (.p Z) (.cons (.p Z) .nil)))), (.cons (.c (.p _)) (.cons (.c (.nilo _ (Nat.le_of_ble_eq_true Z))) (.cons (.c (.p _)) (.cons (.c (.p _)) .nil)))), Z, Z⟩)
      · refine Qc (hL5 _ ?_);refine sk fun L6 hL6 => tk fun L hL => mv Z <| u0 (Ql Z Z Z Z) <| mv Z <| u0 (QF Z Z Z Z Z) <| mv Z <| u0 (QF Z Z Z Z Z) <| u0 (QF Z Z Z Z Z) <| u0 (Q4 (c := decide (((a0.length : Int)) < (IntKind.i64.wrap ((IntKind.i64.wrap ((IntKind.i64.wrap (1 + v3.2.1)) + v3.1)) + 4)))) Z Z Z Z Z) <| rt (hL _ ?_);refine Z3 Z h (fun h => ?_) fun h => ?_
        · refine tk fun L hL => Qf Z Z <| Qf Z Z <| Qf Z Z <| Qf Z Z <| rt (hL _ ?_);obtain rfl := h;exact Qa (hQ _ _ ⟨.inr Z, _, _, _, (.cons (.p Z) (.cons (.p Z) (.cons (.p Z) (.cons (.p Z) .nil)))), (.cons (.c (.p _)) (.cons (.c (.nilo _ (Nat.le_of_ble_eq_true Z))) (.cons (.c (.p _)) (.cons (.c (.p _)) .nil)))), Z, Z⟩)
        · refine Qc (hL6 _ ?_);refine tk fun L hL => mv Z <| mv Z <| u0 (QF Z Z Z Z Z) <| mv Z <| u0 (QF Z Z Z Z Z) <| mv Z <| u0 (QF Z Z Z Z Z) ?_;obtain ⟨hm7, h⟩ := h;refine u0 (Xf hm7 Z Z Z Z Z Z Z Z Z Z) ?_;obtain ⟨hm8, h⟩ := h;refine ul (V5 (f := (eI .u8)) (L := List.drop (Int.toNat (IntKind.i64.wrap (1 + v3.2.1))) (List.take (Int.toNat (IntKind.i64.wrap ((IntKind.i64.wrap (1 + v3.2.1)) + v3.1))) a0)) hm8 Z Z Z Z Z Z Z Z Z Z (Vu QO Z Z Z Z Z)) <| Qf Z Z <| rt (hL _ ?_);refine tk fun L hL => mv Z ?_;obtain ⟨v9, hv9, h⟩ := h;refine u0 (Qx hv9 Z Z Z Z Z Z Z Z) <| u0 (Qo Z Z Z Z Z) <| mv Z ?_;obtain ⟨v10, hv10, h⟩ := h;refine ul (Zb (VX _ _ _ hv10) (Vt (Zy.cons (.o (Vo Bp)) (Zy.cons (.p Z) Zy.nil))) Z Z (.cons (.c (.p _)) (.cons (.c (.fr Z (Z0 Z))) .nil)) Z Z Z) <| u0 (QJ Z Z) <| u0 (Q8 Z Z Z) <| u0 (Q8 Z Z Z) <| Qf Z Z <| Qf Z Z <| rt (hL _ ?_);refine Z9 (st' := ⟨[(0, .c (.p (.l 1 (List.map (eI .u8) a0)))), (9, .c (.sl (44, 0) 0 (List.map (eI .u8) (List.drop (Int.toNat (IntKind.i64.wrap (1 + v3.2.1))) (List.take (Int.toNat (IntKind.i64.wrap ((IntKind.i64.wrap (1 + v3.2.1)) + v3.1))) a0))).length)), (10, .c (.sl (50, 0) 0 (List.map (eI .u8) v10.1).length))], [((44, 0), some (.row 1 (List.map (eI .u8) (List.drop (Int.toNat (IntKind.i64.wrap (1 + v3.2.1))) (List.take (Int.toNat (IntKind.i64.wrap ((IntKind.i64.wrap (1 + v3.2.1)) + v3.1))) a0))) true)), ((50, 0), some (.row 1 (List.map (eI .u8) v10.1) true))]⟩) (QN.nm [0, 9, 10] [((44, 0), (44, 0)), ((50, 0), (50, 0))] Z Z) ?_
          refine Zg (fun (p11 : (List Int) × (List Int)) => (⟨[(0, .c (.p (.l 1 (List.map (eI .u8) a0)))), (9, .c (.sl (9, 1000) 0 (List.map (eI .u8) p11.1).length)), (10, .c (.sl (10, 1000) 0 (List.map (eI .u8) p11.2).length))], [((9, 1000), some (.row 1 (List.map (eI .u8) p11.1) true)), ((10, 1000), some (.row 1 (List.map (eI .u8) p11.2) true))]⟩ : St)) h (fun p11 h => ?_) (fun J11 L11 hL11 h => ?_)
          · refine tk fun L hL => mv Z ?_;obtain ⟨v17, hv17, h⟩ := h;refine u0 (Qx hv17 Z Z Z Z Z Z Z Z) <| u0 (Qo Z Z Z Z Z) <| mv Z <| mv Z <| u0 (ZG Z Z Z Z Z Z) <| Qf Z Z <| Qf Z Z <| Qf Z Z <| Qf Z Z <| rt (hL _ ?_);obtain rfl := h;exact Qa (hQ _ _ ⟨.inr Z, _, _, _, (.cons (.p Z) (.cons (.s Z) (.cons (.p Z) (.cons (.p Z) .nil)))), (.cons (.c (.p _)) (.cons (.c (.own Z Z)) (.cons (.c (.p _)) (.cons (.c (.p _)) .nil)))), Z, Z⟩)
          · refine tk fun L hL => mv Z <| u0 (ZG Z Z Z Z Z Z) <| u0 (Zz Z Z Z Z Z) <| Qf Z Z <| rt (hL _ ?_);refine Qm ?_;refine ZA (fun (s12 : (List Int) × (List Int) × Int) => (⟨[(0, .c (.p (.l 1 (List.map (eI .u8) a0)))), (9, .c (.sl (9, 1000) 0 (List.map (eI .u8) s12.1).length)), (10, .c (.sl (10, 1000) 0 (List.map (eI .u8) s12.2.1).length)), (12, .c (.p (.v (.int .i64 s12.2.2))))], [((9, 1000), some (.row 1 (List.map (eI .u8) s12.1) true)), ((10, 1000), some (.row 1 (List.map (eI .u8) s12.2.1) true))]⟩ : St)) h (QN.nm [0, 9, 10, 12] [((44, 0), (9, 1000)), ((50, 0), (10, 1000))] Z (by kernel_rfl)) (fun X12 L12 hL12 s12 h => ?_);refine sk fun L13 hL13 => tk fun L hL => mv Z <| mv Z <| u0 (ZG Z Z Z Z Z Z) <| u0 (Q4 (c := decide (s12.2.2 < ((s12.2.1.length : Int)))) Z Z Z Z Z) <| rt (hL _ ?_);refine Z3 Z h (fun h => ?_) fun h => ?_
            · refine Qc (hL13 _ ?_);refine sk fun L14 hL14 => Qm <| dk mixed (fun L hL => ?_);refine mv Z <| mv Z ?_;obtain ⟨v15, hv15, h⟩ := h;refine u0 (Z6 hv15 Z Z Z Z Z Z Z Z Z Z) <| u0 (Zk Z Z (gm hv15.2) Z Z Z Z) <| mv Z <| mv Z ?_;obtain ⟨v16, hv16, h⟩ := h;refine u0 (Qx hv16 Z Z Z Z Z Z Z Z) <| u0 (Qo Z Z Z Z Z) <| u0 (Q4 (c := (v15 != v16)) Z Z Z Z Z) <| rd (hL _ ?_);refine Z3 Z h (fun h => ?_) fun h => ?_
              · refine tk fun L hL => Qf Z Z <| Qf Z Z <| Qf Z Z <| Qf Z Z <| rt (hL _ ?_);obtain rfl := h;exact Qa (hQ _ _ ⟨.inr Z, _, _, _, (.cons (.p Z) (.cons (.p Z) (.cons (.p Z) (.cons (.p Z) .nil)))), (.cons (.c (.p _)) (.cons (.c (.nilo _ (Nat.le_of_ble_eq_true Z))) (.cons (.c (.p _)) (.cons (.c (.p _)) .nil)))), Z, Z⟩)
              · refine Qc (hL14 _ ?_);refine tl fun L hL => mv Z <| u0 (QF Z Z Z Z Z) <| Qf Z Z ?_;refine rt (hL _ (hL12 _ _ h (QN.nm [0, 9, 10, 12] [((9, 1000), (9, 1000)), ((10, 1000), (10, 1000))] Z (by kernel_rfl))))
            · refine Z2 (hL11 _ _ h (QN.nm [0, 9, 10] [((9, 1000), (9, 1000)), ((10, 1000), (10, 1000))] Z (by kernel_rfl)))
def UR (a0 : (List Int)) (Q : Bool → Prop) : Prop :=
 ∃ v1, Kf a0 v1 ∧ ((((v1.2 != 0)) = true → ∃ v3, JS a0 v3 ∧ ∃ v4, W4 (Qu.mk v1.1.ff v1.1.fb1 v1.1.fa5 v1.1.fy v1.1.fa v1.1.fj v1.1.fa2 v1.1.f6 v1.1.f9 v1.1.fa0 v1.1.fa4 v1.1.fa1 v1.1.fo v1.1.fi v1.1.fa6) (Qu.mk 0 ByteArray.empty ByteArray.empty ([] : (List ByteArray)) (Qr.mk 0 0 0 0) ([] : (List Qh)) ([] : (List Int)) 0 0 0 0 0 0 (QE.mk 0 ByteArray.empty 0 0 0) ([] : (List Int))) v4 ∧ Q (((bif v4 then (bif (v3.2.2.2 == v1.2) then true else (bif (v3.2.2.2 == 0) then (v1.2 == 2) else false)) else false)))) ∧ (((v1.2 != 0)) = false → ∃ v5, JR (Qu.mk v1.1.ff v1.1.fb1 v1.1.fa5 v1.1.fy v1.1.fa v1.1.fj v1.1.fa2 v1.1.f6 v1.1.f9 v1.1.fa0 v1.1.fa4 v1.1.fa1 v1.1.fo v1.1.fi v1.1.fa6) v5 ∧ Q (((bif (v5.2 == 0) then ((strOfNums v5.1).toList == (strOfNums a0).toList) else false)))))
def Zt (a0 : (List Int)) (r : Bool) : Prop := UR a0 fun x => r = x
theorem Yk (a0 : (List Int)) (r : Bool) (h : Zt a0 r) : Qq Tryz.prog 17 [.c (.l 1 (List.map (eI .u8) a0))] [.c (.p (.v (.bool r)))] [] := by
  refine Qp tb Tryz.func17 Z (by kernel_rfl) Z Z (Nat.le_of_ble_eq_true Z) Z ?_;intro E;unfold Zt UR at h;refine Zj (fun Q hQ => ?_);refine tk fun L hL => Qf Z Z <| rt (hL _ ?_);refine tk fun L hL => mv Z ?_;obtain ⟨v1, hv1, h⟩ := h;refine ul (QG (Un _ _ hv1) Z Z (.cons (.c (.p _)) .nil) Z Z Z) <| u0 (QJ Z Z) <| u0 (ZJ Z Z Z) <| u0 (Q8 Z Z Z) <| u1 (QU Z Z Z) <| un (Qj Z Z Z Z Z Z Z Z Z) <| Qf Z Z <| rt (hL _ ?_);refine sk fun L2 hL2 => tk fun L hL => mv Z <| u0 (Q4 (c := (v1.2 != 0)) Z Z Z Z Z) <| rt (hL _ ?_);refine Z3 Z h (fun h => ?_) fun h => ?_
  · refine tk fun L hL => mv Z ?_;obtain ⟨v3, hv3, h⟩ := h;refine ul (QG (BG _ _ hv3) Z Z (.cons (.c (.p _)) .nil) Z Z Z) <| u0 (QJ Z Z) <| u0 (Q8 Z Z Z) <| u0 (Q8 Z Z Z) <| u0 (Q8 Z Z Z) <| u0 (Q8 Z Z Z) <| Qf Z Z <| Qf Z Z <| Qf Z Z <| Qf Z Z <| rt (hL _ ?_);refine tk fun L hL => u0 (Q6 Z Z Z Z Z Z Z) <| u0 (Qi Z Z Z Z Z Z Z) ?_;obtain ⟨v4, hv4, h⟩ := h;refine ul (Zb (ID _ _ _ hv4) (Vt (Zy.cons (.p Z) Zy.nil)) Z Z (.cons (.agg (.pp (.pp (.pp (.cons (.fr Z (Z0 Z)) (.pp (.pp (.pp (.pp (.cons (.fr Z (Z0 Z)) (.pp (.pp (.pp (.pp (.pp (.pp (.pp (.pp (.pp (.pp (.pp (.pp (.pp .nil))))))))))))))))))))))) (.cons (.agg (.pp (.pp (.pp (.cons (.nil _) (.pp (.pp (.pp (.pp (.cons (.nil _) (.cons (.nil _) (.pp (.pp (.pp (.pp (.pp (.pp (.pp (.pp (.pp (.pp (.pp (.cons (.nil _) .nil))))))))))))))))))))))) .nil)) Z Z Z) <| mv Z <| Q3 Z Z Qb (fun hg => Qd Z Z) <| Q3 Z Z Qb (fun hg => Qd Z Z) <| Q3 Z Z Qb (fun hg => Q4 (c := (v3.2.2.2 == v1.2)) (Qe hg) (Qe hg) Z Z Z) <| Q3 Z Z Qb (fun hg => Qd (Qe hg) Z) <| QH Z Z K5 (fun hg => Qd Z Z) <| QH Z Z K5 (fun hg => Q4 (c := (v3.2.2.2 == 0)) (Qe hg) Z Z Z Z) <| QH Z Z K5 (fun hg => Qd (Qe hg) Z) <| QH Z Z QZ (fun hg => Qd Z Z) <| QH Z Z QZ (fun hg => Q4 (c := (v1.2 == 2)) (Qe hg) Z Z Z Z) <| QH Z Z K5 (fun hg => Qn (v := .bool ((v1.2 == 2))) (w := .bool false) (Qe hg) Z (Jt hg) Z QB Z Z Z) <| Q3 Z Z Qb (fun hg => Qk (v := .bool true) (w := .bool ((bif (v3.2.2.2 == 0) then (v1.2 == 2) else false))) (Qe hg) Z (UH hg) Z QB Z Z Z) <| u0 (Qn (v := .bool ((bif (v3.2.2.2 == v1.2) then true else (bif (v3.2.2.2 == 0) then (v1.2 == 2) else false)))) (w := .bool false) Z Z Qb Z QB Z Z Z) ?_
    refine Qf Z Z <| rt (hL _ ?_);obtain rfl := h;exact Qa (hQ _ _ (ZU Z Z))
  · refine Qc (hL2 _ ?_);refine tk fun L hL => u0 (Q6 Z Z Z Z Z Z Z) ?_;obtain ⟨v5, hv5, h⟩ := h;refine ul (Zb (BE _ _ hv5) (Vt (Zy.cons (.o (Vo Bp)) (Zy.cons (.p Z) Zy.nil))) Z Z (.cons (.agg (.pp (.pp (.pp (.cons (.fr Z (Z0 Z)) (.pp (.pp (.pp (.pp (.cons (.fr Z (Z0 Z)) (.pp (.pp (.pp (.pp (.pp (.pp (.pp (.pp (.pp (.pp (.pp (.pp (.pp .nil))))))))))))))))))))))) .nil) Z Z Z) <| u0 (QJ Z Z) <| u0 (Q8 Z Z Z) <| u0 (Q8 Z Z Z) <| Qf Z Z <| Qf Z Z <| rt (hL _ ?_);refine tk fun L hL => mv Z <| u0 (Q4 (c := (v5.2 == 0)) Z Z Z Z Z) <| mv Z <| Q3 Z Z Qb (fun hg => Qd Z Z) <| Q3 Z Z Qb (fun hg => Ub (Qe hg) Z Z Z Z Z Z Z Z Z) <| Q3 Z Z Qb (fun hg => Qd Z Z) <| Q3 Z Z Qb (fun hg => Ks (Qe hg) Z Z Z Z Z Z Z) <| Q3 Z Z Qb (fun hg => JV (c := ((strOfNums v5.1).toList == (strOfNums a0).toList)) (Qe hg) (Qe hg) Z Z Z) <| u0 (Qn (v := .bool (((strOfNums v5.1).toList == (strOfNums a0).toList))) (w := .bool false) Z Z Qb Z QB Z Z Z) <| Qf Z Z <| rt (hL _ ?_);obtain rfl := h;exact Qa (hQ _ _ (ZU Z Z))
def Xa (a0 : (List Int)) (a1 : (List Int)) (a2 : Int) (a3 : Int) (a4 : Int) (Q : Bool → Prop) : Prop :=
 (((decide (((a0.length : Int)) > 300)) = true → Jz  true ∧ Q true) ∧ ((decide (((a0.length : Int)) > 300)) = false → ∃ v3, A5 a1 0 v3 ∧ ∃ v4, JR (Qu.mk v3.ff v3.fb1 v3.fa5 v3.fy v3.fa v3.fj v3.fa2 v3.f6 v3.f9 v3.fa0 v3.fa4 v3.fa1 v3.fo v3.fi v3.fa6) v4 ∧ ∃ v5, JS v4.1 v5 ∧ jn (fun (p6 : (List Int)) => ∃ v10, Zw 79 a0 v10 ∧ ∃ v11, Zw 79 p6 v11 ∧ ∃ v12, Zw a4 p6 v12 ∧ Zt v10.1 true ∧ Zt v11.1 true ∧ Zt v12.1 true ∧ Zt a0 true ∧ ((v11.1.length + ([a3]).length) * 1 ≤ 140737488355328) ∧ Zt (v11.1 ++ ([a3])) true ∧ Jz  true ∧ Q true) (fun (J6 : (List Int) → Prop) => (((decide (((v5.2.1.length : Int)) > 0)) = true → (((v5.2.1.length : Int) : Int) ≠ 0) ∧ ∃ v8, ix v5.2.1 ((Zq .i64 a2 65535).tmod ((v5.2.1.length : Int))) v8 ∧ ∃ v9, ix v5.2.1 ((Zq .i64 a2 65535).tmod ((v5.2.1.length : Int))) v9 ∧ J6 ((List.set v5.2.1 (Int.toNat ((Zq .i64 a2 65535).tmod ((v5.2.1.length : Int)))) ((YF .u8 v8 a3))))) ∧ ((decide (((v5.2.1.length : Int)) > 0)) = false → J6 v5.2.1)))))
def Jv (a0 : (List Int)) (a1 : (List Int)) (a2 : Int) (a3 : Int) (a4 : Int) (r : Bool) : Prop := Xa a0 a1 a2 a3 a4 fun x => r = x
theorem Au (a0 : (List Int)) (a1 : (List Int)) (a2 : Int) (a3 : Int) (a4 : Int) (r : Bool) (h : Jv a0 a1 a2 a3 a4 r) : Qq Tryz.prog 5 [.c (.l 1 (List.map (eI .u8) a0)), .c (.l 1 (List.map (eI .i64) a1)), .c (.v (.int .i64 a2)), .c (.v (.int .u8 a3)), .c (.v (.int .u8 a4))] [.c (.p (.v (.bool r)))] [] := by
  refine Qp tb Tryz.func5 Z (by kernel_rfl) Z Z (Nat.le_of_ble_eq_true Z) Z ?_;intro E;unfold Jv Xa at h;refine Zj (fun Q hQ => ?_);refine tk fun L hL => Qf Z Z <| rt (hL _ ?_);refine sk fun L1 hL1 => tk fun L hL => mv Z <| u0 (Ql Z Z Z Z) <| u0 (Q4 (c := decide (((a0.length : Int)) > 300)) Z Z Z Z Z) <| rt (hL _ ?_);refine Z3 Z h (fun h => ?_) fun h => ?_
  · refine tk fun L hL => ?_;obtain ⟨hv2, h⟩ := h;refine u0 (Q7 (CE  _ hv2) Z Z .nil Z Z Z) <| Qf Z Z <| rt (hL _ ?_);obtain rfl := h;exact Qa (hQ _ _ (ZU Z Z))
  · refine Qc (hL1 _ ?_);refine tk fun L hL => mv Z ?_;obtain ⟨v3, hv3, h⟩ := h;refine ul (QG (O5 _ _ _ hv3) Z Z (.cons (.c (.p _)) (.cons (.c (.p _)) .nil)) Z Z Z) ?_;obtain ⟨v4, hv4, h⟩ := h;refine ul (Zb (BE _ _ hv4) (Vt (Zy.cons (.o (Vo Bp)) (Zy.cons (.p Z) Zy.nil))) Z Z (.cons (.agg (.pp (.pp (.pp (.pp (.pp (.pp (.pp (.pp (.cons (.fr Z (Z0 Z)) (.pp (.pp (.pp (.pp (.pp (.pp (.pp (.pp (.pp (.pp (.pp (.pp (.cons (.fr Z (Z0 Z)) .nil))))))))))))))))))))))) .nil) Z Z Z) <| u0 (QJ Z Z) <| u0 (Q8 Z Z Z) <| u0 (Q8 Z Z Z) <| Qf Z Z <| Qf Z Z <| rt (hL _ ?_);refine tk fun L hL => mv Z ?_;obtain ⟨v5, hv5, h⟩ := h;refine ul (Zb (BG _ _ hv5) (Vt (Zy.cons (.p Z) (Zy.cons (.o (Vo Bp)) (Zy.cons (.p Z) (Zy.cons (.p Z) Zy.nil))))) Z Z (.cons (.c (.fr Z (Z0 Z))) .nil) Z Z Z) <| u0 (QJ Z Z) <| u0 (Q8 Z Z Z) <| u0 (Q8 Z Z Z) <| u0 (Q8 Z Z Z) <| u0 (Q8 Z Z Z) <| Qf Z Z <| Qf Z Z <| Qf Z Z <| Qf Z Z <| rt (hL _ ?_);refine Zg (fun (p6 : (List Int)) => (⟨[(0, .c (.p (.l 1 (List.map (eI .u8) a0)))), (3, .c (.p (.v (.int .u8 a3)))), (4, .c (.p (.v (.int .u8 a4)))), (14, .c (.sl (14, 1000) 0 (List.map (eI .u8) p6).length))], [((14, 1000), some (.row 1 (List.map (eI .u8) p6) true))]⟩ : St)) h (fun p6 h => ?_) (fun J6 L6 hL6 h => ?_)
    · refine tk fun L hL => mv Z ?_;obtain ⟨v10, hv10, h⟩ := h;refine ul (QG (VX _ _ _ hv10) Z Z (.cons (.c (.p _)) (.cons (.c (.p _)) .nil)) Z Z Z) <| u0 (QJ Z Z) <| u0 (Q8 Z Z Z) <| u0 (Q8 Z Z Z) <| Qf Z Z <| Qf Z Z <| rt (hL _ ?_);refine tk fun L hL => mv Z ?_;obtain ⟨v11, hv11, h⟩ := h;refine ul (Zb (VX _ _ _ hv11) (Vt (Zy.cons (.o (Vo Bp)) (Zy.cons (.p Z) Zy.nil))) Z Z (.cons (.c (.p _)) (.cons (.c (.fr Z (Z0 Z))) .nil)) Z Z Z) <| u0 (QJ Z Z) <| u0 (Q8 Z Z Z) <| u0 (Q8 Z Z Z) <| Qf Z Z <| Qf Z Z <| rt (hL _ ?_);refine tk fun L hL => mv Z <| mv Z ?_;obtain ⟨v12, hv12, h⟩ := h;refine ul (Zb (VX _ _ _ hv12) (Vt (Zy.cons (.o (Vo Bp)) (Zy.cons (.p Z) Zy.nil))) Z Z (.cons (.c (.p _)) (.cons (.c (.fr Z (Z0 Z))) .nil)) Z Z Z) <| u0 (QJ Z Z) <| u0 (Q8 Z Z Z) <| u0 (Q8 Z Z Z) <| Qf Z Z <| Qf Z Z <| rt (hL _ ?_);refine tk fun L hL => mv Z ?_;obtain ⟨hv13, h⟩ := h;refine ul (Zb (Yk _ _ hv13) (Vt (Zy.cons (.p Z) Zy.nil)) Z Z (.cons (.c (.fr Z (Z0 Z))) .nil) Z Z Z) <| mv Z <| Ws Z (Qd Z Z) ?_
      obtain ⟨hv14, h⟩ := h;refine C2 Z (Zb (Yk _ _ hv14) (Vt (Zy.cons (.p Z) Zy.nil)) Z Z (.cons (.c (.fr Z (Z0 Z))) .nil) Z Z Z) <| u0 (U9 Z Z Z Z Z) <| mv Z <| Ws Z (Qd Z Z) ?_;obtain ⟨hv15, h⟩ := h;refine C2 Z (Zb (Yk _ _ hv15) (Vt (Zy.cons (.p Z) Zy.nil)) Z Z (.cons (.c (.fr Z (Z0 Z))) .nil) Z Z Z) <| u0 (U9 Z Z Z Z Z) <| mv Z <| Ws Z (Qd Z Z) ?_;obtain ⟨hv16, h⟩ := h;refine Ws Z (Q7 (Yk _ _ hv16) Z Z (.cons (.c (.p _)) .nil) Z Z Z) <| u0 (U9 Z Z Z Z Z) <| mv Z <| Ws Z (Qd Z Z) <| Ws Z (Qd Z Z) <| C2 Z (Qs (rows := List.map (eI .u8) [a3]) Z Z Z Z Z Z Z Z Z Z Z Z Z) ?_;obtain ⟨hm17, h⟩ := h;refine C2 Z (Qv (f := (eI .u8)) (L := v11.1) (L' := [a3]) hm17 Z Z Z Z Z Z Z Z Z Z Z (QA QO Z Z Z Z Z Z)) ?_;obtain ⟨hv18, h⟩ := h;refine C2 Z (Zb (Yk _ _ hv18) (Vt (Zy.cons (.p Z) Zy.nil)) Z Z (.cons (.c (.fr Z (Z0 Z))) .nil) Z Z Z) <| u0 (U9 Z Z Z Z Z) <| mv Z ?_;obtain ⟨hv19, h⟩ := h;refine Ws Z (Q7 (CE  _ hv19) Z Z .nil Z Z Z) <| u0 (U9 Z Z Z Z Z) <| Qf Z Z <| rt (hL _ ?_)
      refine Z9 (st' := ⟨[(10, .c (.p (.v (.bool true))))], []⟩) (QN.nm [10] [] Z Z) ?_;obtain rfl := h;exact Qa (hQ _ _ (ZU Z Z))
    · refine tk fun L hL => mv Z <| u0 (ZG Z Z Z Z Z Z) <| u0 (Q4 (c := decide (((v5.2.1.length : Int)) > 0)) Z Z Z Z Z) <| rt (hL _ ?_);refine Z3 Z h (fun h => ?_) fun h => ?_
      · refine tl fun L hL => mv Z <| mv Z <| u0 (Za (z := .int .i64 (Zq .i64 a2 65535)) Z Z Z Z Z) <| mv Z <| u0 (ZG Z Z Z Z Z Z) ?_;obtain ⟨hz7, h⟩ := h;refine u0 (Y8 hz7 Z Z Z Z) ?_;obtain ⟨v8, hv8, h⟩ := h;refine u0 (Z6 hv8 Z Z Z Z Z Z Z Z Z Z) <| u0 (Zk Z Z (gm hv8.2) Z Z Z Z) <| mv Z <| u0 (Za (z := .int .u8 (YF .u8 v8 a3)) Z Z Z Z Z) ?_;obtain ⟨v9, hv9, h⟩ := h;refine u0 (Z6 hv9 Z Z Z Z Z Z Z Z Z Z) <| un (Kr (x1 := (YF .u8 v8 a3)) hv9.2 Z Z Z Z Z Z Z Z Z Z Z) ?_;refine rt (hL _ (hL6 _ _ h ((QN.slot 14 Z (.n (n' := (List.map (eI .u8) (List.set v5.2.1 (Int.toNat ((Zq .i64 a2 65535).tmod ((v5.2.1.length : Int)))) ((YF .u8 v8 a3)))).length) (by simp))).trans (QN.nm [0, 3, 4, 14] [((35, 1), (14, 1000))] Z (by kernel_rfl)))))
      · refine Qc (hL6 _ _ h (QN.nm [0, 3, 4, 14] [((35, 1), (14, 1000))] Z (by kernel_rfl)))
end Go.Proofs.YthlaenafkihjiaaGreat

namespace Go.Proofs.YthlaenafkihjiaaGreat
open Go.RowKit
theorem Jl {a b : Bool} : (bif a then b else false) = (a && b) := by cases a <;> rfl
theorem Jw {a b : Bool} : (bif a then true else b) = (a || b) := by cases a <;> rfl
theorem Uq {n lo hi : Int} {r : Bool} : ZI n lo hi r ↔ r = wI n lo hi := by
  unfold ZI Ui wI; by_cases h : lo ≤ n <;> simp [h]
theorem BH {n lo hi : Int} {r : Bool} : ZO n lo hi r ↔ r = wI n lo hi := by
  unfold ZO Uc wI; by_cases h : lo ≤ n <;> simp [h]
theorem K1 {n lo hi : Int} {r : Bool} : Z1 n lo hi r ↔ r = wI n lo hi := by
  unfold Z1 UJ wI; by_cases h : lo ≤ n <;> simp [h]
theorem FA {n lo hi : Int} {r : Bool} : Kt n lo hi r ↔ r = wI n lo hi := by
  unfold Kt WR wI; by_cases h : lo ≤ n <;> simp [h]
theorem GG {n lo hi : Int} {r : Bool} : JP n lo hi r ↔ r = wI n lo hi := by
  unfold JP Uj wI; by_cases h : lo ≤ n <;> simp [h]
theorem Hm {c : Int} {r : Bool} : Xt c r ↔ r = wI c 97 122 := by
  unfold Xt UK wI; by_cases h : (97 : Int) ≤ c <;> simp [h]
theorem Hn {c : Int} {r : Bool} : Yj c r ↔ r = wI c 48 57 := by
  unfold Yj UL wI; by_cases h : (48 : Int) ≤ c <;> simp [h]
theorem Yc {n lo hi : Int} {r : Int} : Zo n lo hi r ↔ r = if lo ≤ n ∧ n ≤ hi then 0 else 5 := by
  unfold Zo Yb
  by_cases h : n < lo
  · simp [h]; rw [if_neg (by omega)]
  · by_cases h2 : n > hi
    · simp [h, h2]; rw [if_neg (by omega)]
    · simp [h, h2]; rw [if_pos (by omega)]
theorem Ny {s : ByteArray} : (decide (1 ≤ (s.size : Int)) && decide ((s.size : Int) ≤ 32)) = decide (1 ≤ s.size ∧ s.size ≤ 32) := by
  rw [Bool.decide_and]; congr 1 <;> exact decide_eq_decide.2 (by omega)
theorem CF {s : ByteArray} {r : Bool} : Xu s r ↔ r = decide (1 ≤ s.size ∧ s.size ≤ 32) := by
  unfold Xu UM; rw [Jl, ← Ny]
theorem Xb {s : ByteArray} {r : Bool} : KF s r ↔ r = decide (1 ≤ s.size ∧ s.size ≤ 32) := by
  unfold KF Ak; rw [Jl, ← Ny]
def WJ (k s d z : Int) : Int :=
  if k = 1 then (if s ≠ 0 ∨ d ≠ 0 ∨ z ≠ 0 then 10 else 0)
  else if k = 2 then (if ¬ (1 ≤ d ∧ d ≤ 8 ∧ 1 ≤ s ∧ s ≤ 64) then 5 else 0)
  else if k = 3 then (if ¬ (2 ≤ s ∧ s ≤ 8) then 5 else if d ≠ 0 then 10 else 0)
  else if k = 4 ∨ k = 5 then (if ¬ (1 ≤ s ∧ s ≤ 32) then 5 else if d ≠ 0 ∨ z ≠ 0 then 10 else 0)
  else if k = 6 then (if ¬ (2 ≤ s ∧ s ≤ 32 ∧ s % 2 = 0) then 5 else if d ≠ 0 ∨ z ≠ 0 then 10 else 0)
  else 8
theorem A9 (p : Qr) : Kz p (WJ p.ff p.fh p.fp p.fv) := by
  unfold Kz VE
  simp only [jn, FA, exists_eq_left, Jl, Jw]
  obtain ⟨k, s, d, z⟩ := p
  simp only
  by_cases h1 : k = 1
  · subst h1; by_cases hs : s = 0 <;> by_cases hd : d = 0 <;> by_cases hz : z = 0 <;> simp [WJ, hs, hd, hz]
  by_cases h2 : k = 2
  · subst h2
    by_cases hd : wI d 1 8 = true <;> by_cases hs : wI s 1 64 = true <;> simp [WJ, hs, hd] <;> simp [wI] at hs hd <;> omega
  by_cases h3 : k = 3
  · subst h3
    by_cases hd : d = 0 <;> by_cases hs : wI s 2 8 = true <;> simp [WJ, hs, hd] <;> simp [wI] at hs hd <;> omega
  by_cases h4 : k = 4 ∨ k = 5
  · have hk : (k == 4 || k == 5) = true := by simpa using h4
    by_cases hd : d = 0 <;> by_cases hz : z = 0 <;> by_cases hs : wI s 1 32 = true <;> rcases h4 with rfl | rfl <;> simp [WJ, hs, hd, hz] <;> simp [wI] at hs hd <;> omega
  by_cases h6 : k = 6
  · subst h6
    by_cases hs : wI s 2 32 = true
    · have hs' : 2 ≤ s ∧ s ≤ 32 := by simpa [wI] using hs
      have ht : s.tmod 2 = s % 2 := Int.tmod_eq_emod_of_nonneg (by omega)
      by_cases hm : s % 2 = 0 <;> by_cases hd : d = 0 <;> by_cases hz : z = 0 <;> simp [WJ, hs, hd, hz, ht, hm, hs']
    · have hs' : ¬ (2 ≤ s ∧ s ≤ 32) := by simpa [wI] using hs
      simp [WJ, hs]; omega
  · have h4' : ¬ k = 4 ∧ ¬ k = 5 := by omega
    simp [WJ, h1, h2, h3, h4'.1, h4'.2, h6]
theorem Xc (p : Qr) : ZH p (WJ p.ff p.fh p.fp p.fv) := by
  unfold ZH VY
  simp only [jn, BH, exists_eq_left, Jl, Jw]
  obtain ⟨k, s, d, z⟩ := p
  simp only
  by_cases h1 : k = 1
  · subst h1; by_cases hs : s = 0 <;> by_cases hd : d = 0 <;> by_cases hz : z = 0 <;> simp [WJ, hs, hd, hz]
  by_cases h2 : k = 2
  · subst h2
    by_cases hd : wI d 1 8 = true <;> by_cases hs : wI s 1 64 = true <;> simp [WJ, hs, hd] <;> simp [wI] at hs hd <;> omega
  by_cases h3 : k = 3
  · subst h3
    by_cases hd : d = 0 <;> by_cases hs : wI s 2 8 = true <;> simp [WJ, hs, hd] <;> simp [wI] at hs hd <;> omega
  by_cases h4 : k = 4 ∨ k = 5
  · have hk : (k == 4 || k == 5) = true := by simpa using h4
    by_cases hd : d = 0 <;> by_cases hz : z = 0 <;> by_cases hs : wI s 1 32 = true <;> rcases h4 with rfl | rfl <;> simp [WJ, hs, hd, hz] <;> simp [wI] at hs hd <;> omega
  by_cases h6 : k = 6
  · subst h6
    by_cases hs : wI s 2 32 = true
    · have hs' : 2 ≤ s ∧ s ≤ 32 := by simpa [wI] using hs
      have ht : s.tmod 2 = s % 2 := Int.tmod_eq_emod_of_nonneg (by omega)
      by_cases hm : s % 2 = 0 <;> by_cases hd : d = 0 <;> by_cases hz : z = 0 <;> simp [WJ, hs, hd, hz, ht, hm, hs']
    · have hs' : ¬ (2 ≤ s ∧ s ≤ 32) := by simpa [wI] using hs
      simp [WJ, hs]; omega
  · have h4' : ¬ k = 4 ∧ ¬ k = 5 := by omega
    simp [WJ, h1, h2, h3, h4'.1, h4'.2, h6]
def US (k : Int) (key : ByteArray) (c n d : Int) : Int :=
  if ¬ (1 ≤ k ∧ k ≤ 7) then 8
  else if (k = 2 ∨ k = 6) ∧ ¬ (1 ≤ key.size ∧ key.size ≤ 32) then 7
  else if k = 5 ∧ ¬ (0 ≤ c ∧ c ≤ 32) then 5
  else if k = 7 ∧ ¬ (1 ≤ d ∧ d ≤ 1000000 ∧ 0 ≤ n ∧ n ≤ d) then 5
  else if (¬ (k = 2 ∨ k = 6) ∧ key.toList ≠ []) ∨ (k ≠ 5 ∧ c ≠ 0) ∨ (k ≠ 7 ∧ (n ≠ 0 ∨ d ≠ 0)) then 18 else 0
theorem Yu : (⟨#[]⟩ : ByteArray).toList = [] := by unfold ByteArray.toList; unfold ByteArray.toList.loop; simp [ByteArray.size]
theorem EQ (q : QE) : VF q (US q.ff q.f3 q.fo q.fa9 q.fa7) := by
  unfold VF Wo
  simp only [jn, CF, Jl, Jw, Yu]
  obtain ⟨k, s, c, n, d⟩ := q
  simp only
  by_cases hk : 1 ≤ k ∧ k ≤ 7
  · have h7 : k = 1 ∨ k = 2 ∨ k = 3 ∨ k = 4 ∨ k = 5 ∨ k = 6 ∨ k = 7 := by omega
    clear hk; unfold US
    generalize s.toList = l
    rcases h7 with rfl | rfl | rfl | rfl | rfl | rfl | rfl
    all_goals simp
    all_goals grind
  · have h1 : k < 1 ∨ k > 7 := by omega
    simp [US, hk, h1]
theorem AX (q : QE) : Kp q (US q.ff q.f3 q.fo q.fa9 q.fa7) := by
  unfold Kp Xw
  simp only [jn, Xb, BH, exists_eq_left, Jl, Jw, Yu]
  obtain ⟨k, s, c, n, d⟩ := q
  simp only
  by_cases hk : 1 ≤ k ∧ k ≤ 7
  · have h7 : k = 1 ∨ k = 2 ∨ k = 3 ∨ k = 4 ∨ k = 5 ∨ k = 6 ∨ k = 7 := by omega
    clear hk; unfold US
    generalize s.toList = l
    rcases h7 with rfl | rfl | rfl | rfl | rfl | rfl | rfl
    all_goals simp [wI]
    all_goals grind
  · have h1 : k < 1 ∨ k > 7 := by omega
    have h2 : wI k 1 7 = false := by simp [wI]; omega
    simp [US, hk, h1, h2]
theorem IE (n : Nat) (hn : n ≤ 4611686018427387904) {B : (Int → Prop) → Int → Prop} {J : Prop} (I : Nat → Prop) (h0 : I 0)
    (hB : ∀ j, j < n → I j → ∀ X : Int → Prop, (I (j + 1) → X (IntKind.i64.wrap ((j : Int) + 1))) → B X (j : Int)) (hJ : I n → J) :
    lp (fun X s => (decide (s < (n : Int)) = true → B X s) ∧ (decide (s < (n : Int)) = false → J)) 0 := by
  refine ZV (I := fun k s => ∃ j : Nat, s = (j : Int) ∧ j ≤ n ∧ k = n - j ∧ I j) ?_ (k := n) ⟨0, rfl, by omega, by omega, h0⟩
  rintro k s ⟨j, rfl, hj, hk, hI⟩ X hX
  refine ⟨fun h => ?_, fun h => ?_⟩
  · have hj2 : (j : Int) < n := by simpa using h
    refine hB j (by omega) hI X fun hI2 => ?_
    rw [Zm (by omega)]
    exact hX (n - (j + 1)) _ (by omega) ⟨j + 1, by omega, by omega, rfl, hI2⟩
  · have hj2 : ¬ (j : Int) < n := by simpa using h
    have : j = n := by omega
    subst this; exact hJ hI
def BI (s : ByteArray) (j : Nat) : Int := if h : j < s.size then (s[j].toNat : Int) else 0
theorem BJ {s : ByteArray} {j : Nat} (h : j < s.size) : bx s (j : Int) (BI s j) := bx_of rfl h (by simp [BI, h])
def PC (c : Int) : Bool := wI c 97 122 || wI c 48 57 || c == 45 || c == 46
def CG (s : ByteArray) : Bool := decide (1 ≤ s.size ∧ s.size ≤ 16) && wI (BI s 0) 97 122 && (List.range s.size).all fun j => PC (BI s j)
theorem Nz {s : ByteArray} (h1 : 1 ≤ s.size ∧ s.size ≤ 16) (h2 : wI (BI s 0) 97 122 = true) (h : ∀ i, i < s.size → PC (BI s i) = true) : CG s = true := by
  simp only [CG, h1, h2]; simpa using h
theorem NA {s : ByteArray} {i : Nat} (hi : i < s.size) (h : PC (BI s i) = false) : CG s = false := by
  have : ((List.range s.size).all fun j => PC (BI s j)) = false := by
    rw [List.all_eq_false]; exact ⟨i, by simpa using hi, by simp [h]⟩
  simp [CG, this]
theorem GH (s : ByteArray) : XN s (CG s) := by
  unfold XN Uf
  simp only [Hm, Hn, Jl, Jw, jn, exists_eq_left]
  by_cases hz : 1 ≤ s.size ∧ s.size ≤ 16
  · have h1 : decide ((s.size : Int) < 1) = false := by simp; omega
    have h2 : decide ((s.size : Int) > 16) = false := by simp; omega
    rw [h1, h2]
    refine ⟨BI s 0, fun _ => BJ (j := 0) (by omega), wI (BI s 0) 97 122, fun _ => rfl, ?_, ?_⟩
    · intro h; simp at h; simp [CG, h]
    · intro h
      have h3 : wI (BI s 0) 97 122 = true := by simpa using h
      refine IE s.size (by omega) (fun j => ∀ i, i < j → PC (BI s i) = true) (fun i hi => absurd hi (by omega)) ?_ ?_
      · intro j hj hI X hX
        refine ⟨BI s j, BJ hj, wI (BI s j) 48 57, fun _ => rfl, ?_, ?_⟩
        · intro hb; refine NA hj ?_; simp at hb; simp [PC, hb]
        · intro hb; refine hX fun i hi => ?_
          by_cases e : i = j
          · subst e; unfold PC; revert hb; cases wI (BI s i) 97 122 <;> cases wI (BI s i) 48 57 <;> simp <;> grind
          · exact hI i (by omega)
      · intro hI; exact Nz hz h3 hI
  · refine ⟨0, ?_, false, ?_, ?_, ?_⟩
    · intro h; simp at h; omega
    · intro h; simp at h; omega
    · intro h; simp [CG, hz]
    · intro h; simp at h
theorem UT (s : ByteArray) : Vj s (CG s) := by
  unfold Vj UN
  simp only [GG, Jl, Jw, jn, exists_eq_left]
  by_cases hz : 1 ≤ s.size ∧ s.size ≤ 16
  · have h1 : decide ((s.size : Int) < 1) = false := by simp; omega
    have h2 : decide ((s.size : Int) > 16) = false := by simp; omega
    rw [h1, h2]
    refine ⟨BI s 0, fun _ => BJ (j := 0) (by omega), wI (BI s 0) 97 122, fun _ => rfl, ?_, ?_⟩
    · intro h; simp at h; simp [CG, h]
    · intro h
      have h3 : wI (BI s 0) 97 122 = true := by simpa using h
      refine IE s.size (by omega) (fun j => ∀ i, i < j → PC (BI s i) = true) (fun i hi => absurd hi (by omega)) ?_ ?_
      · intro j hj hI X hX
        refine ⟨BI s j, BJ hj, BI s j, fun _ => BJ hj, wI (BI s j) 48 57, fun _ => rfl, BI s j, fun _ => BJ hj, BI s j, fun _ => BJ hj, ?_, ?_⟩
        · intro hb; refine NA hj ?_; simp at hb; simp [PC, hb]
        · intro hb; refine hX fun i hi => ?_
          by_cases e : i = j
          · subst e; unfold PC; revert hb; cases wI (BI s i) 97 122 <;> cases wI (BI s i) 48 57 <;> simp <;> grind
          · exact hI i (by omega)
      · intro hI; exact Nz hz h3 hI
  · refine ⟨0, ?_, false, ?_, ?_, ?_⟩
    · intro h; simp at h; omega
    · intro h; simp at h; omega
    · intro h; simp [CG, hz]
    · intro h; simp at h
theorem Wq (s : ByteArray) : JI s (if CG s = true then 0 else 6) := by
  refine ⟨CG s, GH s, ?_, ?_⟩ <;> intro h <;> simp at h <;> simp [h]
def FN (x : Qh) : Int := if ¬ (1 ≤ x.f3.size ∧ x.f3.size ≤ 32) then 7 else if ¬ (1 ≤ x.f4 ∧ x.f4 ≤ 4294967295) then 5 else 0
theorem BK (x : Qh) : Jj x (FN x) := by
  unfold Jj XO FN
  simp only [CF, Jl, Jw, exists_eq_left]
  by_cases h : 1 ≤ x.f3.size ∧ x.f3.size ≤ 32 <;> simp [h]; grind
theorem WV (x : Qh) : Zl x (FN x) := by
  unfold Zl Ya FN
  simp only [Xb, Jl, Jw, exists_eq_left]
  by_cases h : 1 ≤ x.f3.size ∧ x.f3.size ≤ 32 <;> simp [h]; grind
def AY {α : Type} (f : α → Int) : List α → Int
  | [] => 0
  | x :: r => if f x ≠ 0 then f x else AY f r
theorem GI {α : Type} {f : α → Int} {l : List α} (h : ∀ (j : Nat) x, l[j]? = some x → f x = 0) : AY f l = 0 := by
  induction l with
  | nil => rfl
  | cons x r ih => simp [AY, h 0 x rfl]; exact ih fun j x hx => h (j + 1) x (by simpa using hx)
theorem FO {α : Type} {f : α → Int} {l : List α} {j : Nat} {x : α} (hx : l[j]? = some x) (hn : f x ≠ 0) (h : ∀ i, i < j → ∀ y, l[i]? = some y → f y = 0) : AY f l = f x := by
  induction l generalizing j with
  | nil => simp at hx
  | cons z r ih =>
    cases j with
    | zero => simp at hx; subst hx; simp [AY, hn]
    | succ j =>
      simp [AY, h 0 (by omega) z rfl]
      exact ih (by simpa using hx) fun i hi y hy => h (i + 1) (by omega) y (by simpa using hy)
theorem E7 {α : Type} {l : List α} (hl : l.length ≤ 4611686018427387904) {B : (Int → Prop) → Int → Prop} {J : Prop} {f : α → Int}
    (hB : ∀ (j : Nat) x, l[j]? = some x → (∀ i, i < j → ∀ y, l[i]? = some y → f y = 0) → ∀ X : Int → Prop, (f x = 0 → X (IntKind.i64.wrap ((j : Int) + 1))) → B X (j : Int)) (hJ : AY f l = 0 → J) :
    lp (fun X s => (decide (s < (l.length : Int)) = true → B X s) ∧ (decide (s < (l.length : Int)) = false → J)) 0 := by
  refine IE l.length hl (fun j => ∀ i, i < j → ∀ y, l[i]? = some y → f y = 0) (fun i hi => absurd hi (by omega)) ?_ ?_
  · intro j hj hI X hX
    obtain ⟨x, hx⟩ : ∃ x, l[j]? = some x := ⟨l[j], by simp [hj]⟩
    refine hB j x hx hI X fun h0 => hX fun i hi y hy => ?_
    by_cases e : i = j
    · subst e; rw [hx] at hy; cases hy; exact h0
    · exact hI i (by omega) y hy
  · intro hI
    refine hJ (GI fun j x hx => hI j ?_ x hx)
    rw [List.getElem?_eq_some_iff] at hx; exact hx.1
def BL (s : ByteArray) : Int := if CG s = true then 0 else 6
def HY (l : List ByteArray) : Int := if ¬ (1 ≤ l.length ∧ l.length ≤ 16) then 5 else AY BL l
def I0 (l : List Qh) : Int := if ¬ (1 ≤ l.length ∧ l.length ≤ 64) then 5 else AY FN l
theorem ER (l : List ByteArray) : VD l (HY l) := by
  unfold VD Wn
  simp only [Yc, exists_eq_left, jn]
  by_cases hz : 1 ≤ l.length ∧ l.length ≤ 16
  · have e : ((1 : Int) ≤ l.length ∧ (l.length : Int) ≤ 16) := by omega
    rw [if_pos e]
    refine ⟨fun h => by simp at h, fun _ => ?_⟩
    refine E7 (f := BL) (by omega) ?_ ?_
    · intro j x hx hb X hX
      refine ⟨x, Vm rfl hx, BL x, Wq x, fun h => ?_, fun h => hX (by simpa using h)⟩
      have hn : BL x ≠ 0 := by simpa using h
      simp only [HY, hz, not_true, and_self, if_false]; exact FO hx hn hb
    · intro h; simp [HY, hz, h]
  · have e : ¬ ((1 : Int) ≤ l.length ∧ (l.length : Int) ≤ 16) := by omega
    rw [if_neg e]
    exact ⟨fun _ => by simp [HY, hz], fun h => by simp at h⟩
theorem E8 (l : List Qh) : V9 l (I0 l) := by
  unfold V9 YQ
  simp only [Yc, exists_eq_left, jn]
  by_cases hz : 1 ≤ l.length ∧ l.length ≤ 64
  · have e : ((1 : Int) ≤ l.length ∧ (l.length : Int) ≤ 64) := by omega
    rw [if_pos e]
    refine ⟨fun h => by simp at h, fun _ => ?_⟩
    refine E7 (f := FN) (by omega) ?_ ?_
    · intro j x hx hb X hX
      refine ⟨x, Vm rfl hx, FN x, BK x, fun h => ?_, fun h => hX (by simpa using h)⟩
      have hn : FN x ≠ 0 := by simpa using h
      simp only [I0, hz, not_true, and_self, if_false]; exact FO hx hn hb
    · intro h; simp [I0, hz, h]
  · have e : ¬ ((1 : Int) ≤ l.length ∧ (l.length : Int) ≤ 64) := by omega
    rw [if_neg e]
    exact ⟨fun _ => by simp [I0, hz], fun h => by simp at h⟩
theorem Jd (x : Int) (l : List Int) (hl : l.length ≤ 100) : Ke x l (l.contains x) := by
  unfold Ke Di
  simp only [jn]
  refine E7 (f := fun y => if y = x then 1 else 0) (by omega) ?_ ?_
  · intro j y hy hb X hX
    refine ⟨y, Vm rfl hy, fun h => ?_, fun h => hX (by simp at h; simp [h])⟩
    simp at h; subst h; simp; exact List.mem_of_getElem? hy
  · intro h
    cases hc : l.contains x with
    | false => rfl
    | true =>
      exfalso
      have hm : x ∈ l := by simpa using hc
      obtain ⟨j, hj⟩ := List.getElem?_of_mem hm
      have : ∀ (l : List Int), x ∈ l → AY (fun y => if y = x then 1 else 0) l ≠ 0 := by
        intro l; induction l with
        | nil => simp
        | cons a r ih => intro h; unfold AY; by_cases e : a = x <;> simp [e]; have := ih (by simpa [Ne.symm e] using h); simpa using this
      exact this l hm h
def Av (k : Int) : KC := KC.mk ([1, 2, 3, 5, 6, 7, 8, 16].contains k) ([3, 7, 8].contains k) ([9].contains k) ([1].contains k) ([6].contains k) ([6, 7, 8].contains k) ([8].contains k) ([10, 11, 12, 15].contains k) ([10, 12, 15].contains k) ([13, 14].contains k) ([13].contains k) ([5, 10].contains k) ([16].contains k)
theorem IF (k : Int) : YU k (Av k) := by
  unfold YU Aq
  exact ⟨_, Jd _ _ (by simp), _, Jd _ _ (by simp), _, Jd _ _ (by simp), _, Jd _ _ (by simp), _, Jd _ _ (by simp), _, Jd _ _ (by simp), _, Jd _ _ (by simp), _, Jd _ _ (by simp), _, Jd _ _ (by simp), _, Jd _ _ (by simp), _, Jd _ _ (by simp), _, Jd _ _ (by simp), _, Jd _ _ (by simp), rfl⟩
def ES (x : Qu) (a b : Bool) : Int := if a = true ∧ HY x.fy ≠ 0 then HY x.fy else if b = true then I0 x.fj else 0
theorem CH (x : Qu) (a b : Bool) : Jy x a b (ES x a b) := by
  have part2 : ((b = true → ∃ v, ZI (x.fj.length : Int) 1 64 v ∧ ((!v) = true → I0 x.fj = 5) ∧ ((!v) = false → AY FN x.fj = I0 x.fj))) := by
    intro hb
    refine ⟨_, Uq.2 rfl, ?_, ?_⟩ <;> intro h <;> simp [wI] at h <;> simp [I0] <;> omega
  unfold Jy UP
  simp only [Uq, exists_eq_left, jn]
  have rest : (a = true → HY x.fy = 0) → (b = true →
          (((!wI (↑x.fj.length) 1 64) = true → ES x a b = 5) ∧
            ((!wI (↑x.fj.length) 1 64) = false → lp (fun X12 s12 => (decide (s12 < (x.fj.length : Int)) = true →
                      ∃ v15, ix x.fj s12 v15 ∧ ∃ v16, Zl v15 v16 ∧ ((v16 != 0) = true → ES x a b = v16) ∧ ((v16 != 0) = false → X12 (IntKind.i64.wrap (s12 + 1)))) ∧
                    (decide (s12 < (x.fj.length : Int)) = false → ES x a b = 0)) 0))) ∧ (b = false → ES x a b = 0) := by
    intro ha
    have e0 : ES x a b = if b = true then I0 x.fj else 0 := by
      unfold ES; rw [if_neg (fun h => h.2 (ha h.1))]
    rw [e0]
    refine ⟨fun hb => ?_, fun hb => by simp [hb]⟩
    rw [if_pos hb]
    by_cases hz : 1 ≤ x.fj.length ∧ x.fj.length ≤ 64
    · have e : wI (x.fj.length : Int) 1 64 = true := by simp [wI]; omega
      refine ⟨fun h => by simp [e] at h, fun _ => ?_⟩
      refine E7 (f := FN) (by omega) ?_ ?_
      · intro j y hy hbb X hX
        refine ⟨y, Vm rfl hy, FN y, WV y, fun h => ?_, fun h => hX (by simpa using h)⟩
        have hn : FN y ≠ 0 := by simpa using h
        simp only [I0, hz, not_true, and_self, if_false]; exact FO hy hn hbb
      · intro h; simp [I0, hz, h]
    · have e : wI (x.fj.length : Int) 1 64 = false := by simp [wI]; omega
      exact ⟨fun _ => by simp [I0, hz], fun h => by simp [e] at h⟩
  refine ⟨fun ha => ?_, fun ha => rest (by simp [ha])⟩
  by_cases hz : 1 ≤ x.fy.length ∧ x.fy.length ≤ 16
  · have e : wI (x.fy.length : Int) 1 16 = true := by simp [wI]; omega
    refine ⟨fun h => by simp [e] at h, fun _ => ?_⟩
    refine E7 (f := BL) (by omega) ?_ ?_
    · intro j y hy hbb X hX
      refine ⟨y, Vm rfl hy, CG y, UT y, fun h => ?_, fun h => hX (by simp at h; simp [BL, h])⟩
      have hn : BL y = 6 := by simp at h; simp [BL, h]
      have : HY x.fy = 6 := by
        simp only [HY, hz, not_true, and_self, if_false]; rw [FO hy (by simp [hn]) hbb, hn]
      simp [ES, ha, this]
    · intro h
      exact rest fun _ => by simp [HY, hz, h]
  · have e : wI (x.fy.length : Int) 1 16 = false := by simp [wI]; omega
    have : HY x.fy = 5 := by simp [HY, hz]
    exact ⟨fun _ => by simp [ES, ha, this], fun h => by simp [e] at h⟩
end Go.Proofs.YthlaenafkihjiaaGreat
namespace Go.Proofs.YthlaenafkihjiaaGreat
open Go.RowKit Go.ChangeShapes Go.WideShapes
theorem P9 (x : Int) (j : Nat) (hj : j ≤ 62) (m : Int) (hm : m = 2 ^ j - 1) : bits BinOp.and IntKind.i64 x m = x % 2 ^ j := by
  have hp : (2 : Nat) ^ j ≤ 2 ^ 62 := Nat.pow_le_pow_right (by omega) hj
  have hp1 : 1 ≤ (2 : Nat) ^ j := Nat.one_le_two_pow
  have e0 : (2 : Int) ^ j = ((2 ^ j : Nat) : Int) := by simp
  have e1 : m = ((2 ^ j - 1 : Nat) : Int) := by rw [hm, e0]; omega
  show IntKind.i64.wrap ((BitVec.ofInt 64 x &&& BitVec.ofInt 64 m).toNat : Int) = _
  rw [BitVec.toNat_and, e1, BitVec.ofInt_natCast, BitVec.toNat_ofNat, Nat.mod_eq_of_lt (a := 2 ^ j - 1) (by omega), Nat.and_two_pow_sub_one_eq_mod, BitVec.toNat_ofInt]
  have hd : ((2 ^ j : Nat) : Int) ∣ (2 ^ 64 : Nat) := by
    refine ⟨((2 ^ (64 - j) : Nat) : Int), ?_⟩
    rw [← Int.natCast_mul, ← Nat.pow_add, show j + (64 - j) = 64 from by omega]
  have h2 : ((x % ((2 ^ 64 : Nat) : Int)).toNat % 2 ^ j : Nat) = (x % (2 ^ j : Nat)).toNat := by
    have hx0 : 0 ≤ x % ((2 ^ 64 : Nat) : Int) := Int.emod_nonneg _ (by decide)
    have hx1 : 0 ≤ x % ((2 ^ j : Nat) : Int) := Int.emod_nonneg _ (by omega)
    apply Int.ofNat.inj
    show (((x % ((2 ^ 64 : Nat) : Int)).toNat % 2 ^ j : Nat) : Int) = (((x % (2 ^ j : Nat)).toNat : Nat) : Int)
    rw [Int.natCast_emod, Int.toNat_of_nonneg hx0, Int.toNat_of_nonneg hx1, Int.emod_emod_of_dvd _ hd]
  rw [h2, Int.toNat_of_nonneg (Int.emod_nonneg _ (by omega)), e0, IntKind.wrap_i64]
  have hb0 : 0 ≤ x % ((2 ^ j : Nat) : Int) := Int.emod_nonneg _ (by omega)
  have hb1 : x % ((2 ^ j : Nat) : Int) < ((2 ^ j : Nat) : Int) := Int.emod_lt_of_pos _ (by omega)
  omega
theorem bA (x : Int) (j : Nat) (hj : j ≤ 62) (m : Int) (hm : m = 2 ^ j - 1) : Zq .i64 x m = x % 2 ^ j := P9 x j hj m hm
theorem bA1 (x : Int) : Zq .i64 x 1 = x % 2 := bA x 1 (by decide) 1 (by decide)
theorem bA3 (x : Int) : Zq .i64 x 3 = x % 4 := bA x 2 (by decide) 3 (by decide)
theorem bA7 (x : Int) : Zq .i64 x 7 = x % 8 := bA x 3 (by decide) 7 (by decide)
theorem bA15 (x : Int) : Zq .i64 x 15 = x % 16 := bA x 4 (by decide) 15 (by decide)
theorem bA255 (x : Int) : Zq .i64 x 255 = x % 256 := bA x 8 (by decide) 255 (by decide)
theorem IG (x : Int) : Zq .i64 x 65535 = x % 65536 := bA x 16 (by decide) 65535 (by decide)
theorem MN (x : Int) : Zq .i64 x 16777215 = x % 16777216 := bA x 24 (by decide) 16777215 (by decide)
theorem JU {a b : Int} (ha : 0 ≤ a) : a.tmod b = a % b := Int.tmod_eq_emod_of_nonneg ha
theorem Kg {α : Type} {l : List α} {n : Int} (h0 : 0 ≤ n) (h1 : n < l.length) : ∃ x, ix l n x ∧ l[n.toNat]? = some x := by
  have : n.toNat < l.length := by omega
  exact ⟨l[n.toNat], ⟨h0, by simp [this]⟩, by simp [this]⟩
theorem Aa {n : Int} (h : 0 ≤ n ∧ n ≤ 18446744073709551615) : IntKind.u64.wrap n = n := by rw [IntKind.wrap_u64]; omega
theorem KJ (l : List Int) : (strOfNums l).size = l.length := by simp [strOfNums, ByteArray.size]
theorem shr8 (x : Int) : QR .i64 x 8 = x / 256 := by
  show x.fdiv (2 ^ 8) = x / 256
  rw [Int.fdiv_eq_ediv_of_nonneg x (by decide)]; rfl
end Go.Proofs.YthlaenafkihjiaaGreat
namespace Go.Proofs.YthlaenafkihjiaaGreat
open Go.RowKit Go.ChangeShapes Go.WideShapes
def Wb : Nat → Int → List Int
  | 0, _ => []
  | k + 1, n => (n / 2 ^ (8 * k)) % 256 :: Wb k n
theorem Zu (k : Nat) (n : Int) : (Wb k n).length = k := by induction k with
  | zero => rfl
  | succ k ih => simp [Wb, ih]
def nB (n : Int) : Nat :=
  if n < 256 then 1 else if n < 65536 then 2 else if n < 16777216 then 3 else if n < 4294967296 then 4 else
  if n < 1099511627776 then 5 else if n < 281474976710656 then 6 else if n < 72057594037927936 then 7 else 8
theorem Ur (n : Int) : 1 ≤ nB n ∧ nB n ≤ 8 := by
    unfold nB; repeat' split
    all_goals omega
def VP (n : Int) : List Int := if n < 248 then [n] else (247 + (nB n : Int)) :: Wb (nB n) n
def Jg (n : Int) : List Int := if n < 0 ∨ n > 4611686018427387904 then [] else VP n
def O8 (n : Int) : Int := if n < 0 ∨ n > 4611686018427387904 then 5 else 0
theorem nB_up (n : Int) (k : Nat) (h1 : 1 ≤ k) (h8 : k < 8) (hlt : k < nB n) : 0 < n / 2 ^ (8 * k) := by
  unfold nB at hlt
  have hk : k = 1 ∨ k = 2 ∨ k = 3 ∨ k = 4 ∨ k = 5 ∨ k = 6 ∨ k = 7 := by omega
  rcases hk with rfl | rfl | rfl | rfl | rfl | rfl | rfl <;> simp only [Nat.reduceMul, Int.reducePow] <;> (repeat' split at hlt) <;> omega
theorem Sa (n : Int) (k : Nat) (h0 : 0 ≤ n) (h1 : 1 ≤ k) (h8 : k < 8) (hlt : nB n ≤ k) : n / 2 ^ (8 * k) ≤ 0 := by
  unfold nB at hlt
  have hk : k = 1 ∨ k = 2 ∨ k = 3 ∨ k = 4 ∨ k = 5 ∨ k = 6 ∨ k = 7 := by omega
  rcases hk with rfl | rfl | rfl | rfl | rfl | rfl | rfl <;> simp only [Nat.reduceMul, Int.reducePow] <;> (repeat' split at hlt) <;> omega
theorem JA (n : Int) : (VP n).length ≤ 9 := by
  unfold VP
  have := Ur n
  split
  · simp
  · simp [Zu]; omega
theorem GJ {n : Int} {xs : List Int} {j : Nat} {t : List Int} (h : xs ++ Wb (j + 1) n = t) : (xs ++ [n / 2 ^ (8 * j) % 256]) ++ Wb j n = t := by
  rw [← h]; simp [Wb]
theorem IH {n : Int} {xs : List Int} {j : Nat} {t : List Int} (h : xs ++ Wb j n = t) : xs.length + j = t.length := by
  rw [← h]; simp [Zu]
theorem Pb (n : Int) (k : Nat) (h0 : 0 < n) (hlt : k < nB n) : 0 < n / 2 ^ (8 * k) := by
  have hr := Ur n
  by_cases h : k = 0
  · subst h; simpa using h0
  · exact nB_up n k (by omega) (by omega) hlt
theorem Pd (n : Int) (k : Nat) (h0 : 0 ≤ n) (h1 : n ≤ 4611686018427387904) (hlt : nB n ≤ k) (h8 : k ≤ 8) : n / 2 ^ (8 * k) ≤ 0 := by
  have hr := Ur n
  by_cases h : k = 8
  · subst h; simp only [Nat.reduceMul, Int.reducePow]; omega
  · exact Sa n k h0 (by omega) (by omega) hlt
theorem Pe (n : Int) (j : Nat) : n / 2 ^ (8 * j) / 256 = n / 2 ^ (8 * (j + 1)) := by
  rw [Int.ediv_ediv_of_nonneg (by exact Int.le_of_lt (Int.pow_pos (by omega))), show 8 * (j + 1) = 8 * j + 8 from by omega, Int.pow_add]
  rfl
def WK (l : List Int) : Int := l.foldl (fun x c => x * 256 + c) 0
theorem BM (l : List Int) (c : Int) : WK (l ++ [c]) = WK l * 256 + c := by simp [WK]
theorem R4 (l : List Int) (h : ∀ n ∈ l, (Lit.int .u8 n).wf = true) : ∀ x : Int, 0 ≤ x → 0 ≤ l.foldl (fun x c => x * 256 + c) x ∧ l.foldl (fun x c => x * 256 + c) x < (x + 1) * 256 ^ l.length := by
  induction l with
  | nil => intro x hx; simp; omega
  | cons c l ih =>
    intro x hx
    have hc := bounds_u8 (h c (by simp))
    have := ih (fun n hn => h n (by simp [hn])) (x * 256 + c) (by omega)
    refine ⟨this.1, Int.lt_of_lt_of_le this.2 ?_⟩
    rw [List.length_cons, Int.pow_succ, Int.mul_comm (256 ^ l.length) 256, ← Int.mul_assoc]
    exact Int.mul_le_mul_of_nonneg_right (by omega) (Int.pow_nonneg (by omega))
theorem Dk (l : List Int) (h : ∀ n ∈ l, (Lit.int .u8 n).wf = true) : 0 ≤ WK l ∧ WK l < 256 ^ l.length := by
  have := R4 l h 0 (by omega)
  simpa [WK] using this
theorem Pf {X c : Int} (h0 : 0 ≤ X) (h1 : X < 72057594037927936) (c0 : 0 ≤ c) (c1 : c ≤ 255) : bits BinOp.or IntKind.u64 (X * 256) c = X * 256 + c :=
  bits_join .u64 64 (by decide) (fun n a b => by rw [IntKind.wrap_u64]; omega) 8 (X * 256) c (by omega) (by omega) (by omega) c0 (by omega) (by omega)
theorem LV (l : List Int) (h : ∀ n ∈ l, (Lit.int .u8 n).wf = true) (j : Nat) (hj : j < 8) : 0 ≤ WK (l.take j) ∧ WK (l.take j) < 72057594037927936 := by
  have := Dk (l.take j) (fun n hn => h n (List.mem_of_mem_take hn))
  have hl : (l.take j).length ≤ 7 := by rw [List.length_take]; omega
  have h7 : (256 : Int) ^ (l.take j).length ≤ 72057594037927936 := by
    generalize (l.take j).length = n at hl
    match n, hl with
    | 0, _ => decide
    | 1, _ => decide
    | 2, _ => decide
    | 3, _ => decide
    | 4, _ => decide
    | 5, _ => decide
    | 6, _ => decide
    | 7, _ => decide
    | n + 8, h => omega
  exact ⟨this.1, Int.lt_of_lt_of_le this.2 h7⟩
def Y5 (l : List Int) : Int × Int × Int :=
  if l = [] then (0, 0, 3)
  else if gI l 0 < 248 then (gI l 0, 1, 0)
  else if (l.length : Int) ≤ gI l 0 - 247 then (0, 0, 3)
  else if gI l 1 = 0 ∨ WK (l.tail.take (gI l 0 - 247).toNat) < 248 ∨ WK (l.tail.take (gI l 0 - 247).toNat) > 4611686018427387904 then (0, 0, 2)
  else (WK (l.tail.take (gI l 0 - 247).toNat), gI l 0 - 246, 0)
def E9 (l : List Int) : Int × Int × Int := if l.length < 8 then (0, 0, 3) else (WK (l.take 8), 8, 0)
theorem C5 {l : List Int} (hw : ∀ n ∈ l, (Lit.int .u8 n).wf = true) {n k : Int} (h : Y5 l = (n, k, 0)) : 0 ≤ n ∧ n ≤ 4611686018427387904 ∧ 1 ≤ k ∧ k ≤ 9 ∧ k ≤ l.length ∧ 0 < l.length := by
  have g0 := MY hw 0
  have hx := (Dk (l.tail.take (gI l 0 - 247).toNat) (fun n hn => hw n (List.mem_of_mem_tail (List.mem_of_mem_take hn)))).1
  unfold Y5 at h
  by_cases h0 : l = []
  · rw [if_pos h0] at h; simp at h
  have hl : 0 < l.length := List.length_pos_iff.2 h0
  rw [if_neg h0] at h
  by_cases h1 : gI l 0 < 248
  · rw [if_pos h1] at h; simp only [Prod.mk.injEq] at h; omega
  rw [if_neg h1] at h
  by_cases h2 : (l.length : Int) ≤ gI l 0 - 247
  · rw [if_pos h2] at h; simp at h
  rw [if_neg h2] at h
  generalize WK (l.tail.take (gI l 0 - 247).toNat) = X at h hx
  by_cases h3 : gI l 1 = 0 ∨ X < 248 ∨ X > 4611686018427387904
  · rw [if_pos h3] at h; simp at h
  rw [if_neg h3] at h
  simp only [Prod.mk.injEq] at h
  omega
def Ea (l : List Int) (r : Int × Int × Int) : ByteArray × Int × Int :=
  if r.2.2 ≠ 0 then (⟨#[]⟩, 0, r.2.2)
  else if r.1 > 65536 then (⟨#[]⟩, 0, 2)
  else if (l.length : Int) - r.2.1 < r.1 then (⟨#[]⟩, 0, 3)
  else (strOfNums ((l.drop r.2.1.toNat).take r.1.toNat), r.2.1 + r.1, 0)
def Ci (l : List Int) : ByteArray × Int × Int := Ea l (Y5 l)
def GK (p : Int × Int) (c : Int) : Int × Int := ((p.1 + c) % 65521, (p.2 + (p.1 + c) % 65521) % 65521)
def BN (l : List Int) : Int × Int := l.foldl GK (1, 0)
def C6 (l : List Int) : Int := (BN l).2 * 65536 + (BN l).1
theorem O9 (l : List Int) (c : Int) : BN (l ++ [c]) = GK (BN l) c := by simp [BN]
theorem MO (p : Int × Int) (c : Int) : 0 ≤ (GK p c).1 ∧ (GK p c).1 < 65521 ∧ 0 ≤ (GK p c).2 ∧ (GK p c).2 < 65521 := by
  simp only [GK]; omega
theorem FB (l : List Int) : ∀ p : Int × Int, (0 ≤ p.1 ∧ p.1 < 65521 ∧ 0 ≤ p.2 ∧ p.2 < 65521) → 0 ≤ (l.foldl GK p).1 ∧ (l.foldl GK p).1 < 65521 ∧ 0 ≤ (l.foldl GK p).2 ∧ (l.foldl GK p).2 < 65521 := by
  induction l with
  | nil => intro p h; exact h
  | cons c l ih => intro p _; exact ih _ (MO p c)
theorem Aw (l : List Int) : 0 ≤ (BN l).1 ∧ (BN l).1 < 65521 ∧ 0 ≤ (BN l).2 ∧ (BN l).2 < 65521 := FB l (1, 0) (by decide)
theorem C7 (l : List Int) : 0 ≤ C6 l ∧ C6 l < 4294967296 := by
  have := Aw l
  unfold C6
  omega
def Ku (tag : Int) (body : List Int) : List Int := tag :: VP body.length ++ body
def ZZ (tag : Int) (body : List Int) : List Int := if body.length > 1048576 then [] else Ku tag body ++ Wb 4 (C6 (Ku tag body))
def BO (body : List Int) : Int := if body.length > 1048576 then 11 else 0
theorem wf_u8 {n : Int} (h0 : 0 ≤ n) (h1 : n ≤ 255) : (Lit.int .u8 n).wf = true := by
  simp [Lit.wf, IntKind.min, IntKind.max, IntKind.signed, IntKind.bits]; omega
theorem II (k : Nat) (n : Int) : ∀ c ∈ Wb k n, (Lit.int .u8 c).wf = true := by
  induction k with
  | zero => intro c hc; simp [Wb] at hc
  | succ k ih =>
    intro c hc
    rw [Wb, List.mem_cons] at hc
    rcases hc with rfl | hc
    · exact wf_u8 (by omega) (by omega)
    · exact ih c hc
theorem IJ (n : Int) (h : 0 ≤ n) : ∀ c ∈ VP n, (Lit.int .u8 c).wf = true := by
  intro c hc
  unfold VP at hc
  have := Ur n
  split at hc
  · simp at hc; subst hc; exact wf_u8 (by omega) (by omega)
  · rcases List.mem_cons.1 hc with rfl | hc
    · exact wf_u8 (by omega) (by omega)
    · exact II _ _ c hc
theorem Y6 (tag : Int) (body : List Int) : (Ku tag body).length = 1 + (VP body.length).length + body.length := by
  unfold Ku; simp; omega
theorem beB4 {X : Int} (h0 : 0 ≤ X) (h1 : X < 4294967296) : Wb 4 X = [X / 16777216, X / 65536 % 256, X / 256 % 256, X % 256] := by
  have e3 : (2 : Int) ^ (8 * 3) = 16777216 := by decide
  have e2 : (2 : Int) ^ (8 * 2) = 65536 := by decide
  have e1 : (2 : Int) ^ (8 * 1) = 256 := by decide
  have e0 : (2 : Int) ^ (8 * 0) = 1 := by decide
  simp only [Wb, e3, e2, e1, e0, Int.ediv_one]
  rw [Int.emod_eq_of_lt (a := X / 16777216) (by omega) (by omega)]
def Dl (l : List Int) (r : Int × Int × Int) : Int × List Int × Int × Int :=
  if r.2.2 ≠ 0 then (0, [], 0, r.2.2)
  else if r.1 > 1048576 then (0, [], 0, 2)
  else if (l.length : Int) < 1 + r.2.1 + r.1 + 4 then (0, [], 0, 3)
  else if WK ((l.drop (1 + r.2.1.toNat + r.1.toNat)).take 4) ≠ C6 (l.take (1 + r.2.1.toNat + r.1.toNat)) then (0, [], 0, 4)
  else (gI l 0, (l.drop (1 + r.2.1.toNat)).take r.1.toNat, 1 + r.2.1 + r.1 + 4, 0)
def FP (l : List Int) : Int × List Int × Int × Int := if l = [] then (0, [], 0, 3) else Dl l (Y5 l.tail)
theorem MP {X c : Int} (h0 : 0 ≤ X) (h1 : X < 16777216) (c0 : 0 ≤ c) (c1 : c ≤ 255) : bits BinOp.or IntKind.u32 (X * 256) c = X * 256 + c :=
  bits_join .u32 32 (by decide) (fun n a b => by rw [IntKind.wrap_u32]; omega) 8 (X * 256) c (by omega) (by omega) (by omega) c0 (by omega) (by omega)
theorem Oa (l : List Int) (h : ∀ n ∈ l, (Lit.int .u8 n).wf = true) (j : Nat) (hj : j < 4) : 0 ≤ WK (l.take j) ∧ WK (l.take j) < 16777216 := by
  have := Dk (l.take j) (fun n hn => h n (List.mem_of_mem_take hn))
  have hl : (l.take j).length ≤ 3 := by rw [List.length_take]; omega
  have h7 : (256 : Int) ^ (l.take j).length ≤ 16777216 := by
    generalize (l.take j).length = n at hl
    match n, hl with
    | 0, _ => decide
    | 1, _ => decide
    | 2, _ => decide
    | 3, _ => decide
    | n + 4, h => omega
  exact ⟨this.1, Int.lt_of_lt_of_le this.2 h7⟩
end Go.Proofs.YthlaenafkihjiaaGreat
namespace Go.Proofs.YthlaenafkihjiaaGreat
open Go.RowKit Go.ChangeShapes Go.WideShapes
theorem MQ (n : Int) (k : Nat) : n / 256 / 2 ^ (8 * k) = n / 2 ^ (8 * (k + 1)) := by
  rw [Int.ediv_ediv_of_nonneg (by omega), show 8 * (k + 1) = 8 + 8 * k from by omega, Int.pow_add]
  rfl
theorem LW (k : Nat) : ∀ n : Int, Wb (k + 1) n = Wb k (n / 256) ++ [n % 256] := by
  induction k with
  | zero => intro n; simp [Wb]
  | succ k ih =>
    intro n
    rw [Wb, ih n, Wb, MQ, List.cons_append]
theorem NB : ∀ (j : Nat) (m : List Int), m.length = j → (∀ n ∈ m, (Lit.int .u8 n).wf = true) → Wb j (WK m) = m := by
  intro j
  induction j with
  | zero => intro m hm _; rw [List.eq_nil_of_length_eq_zero hm]; rfl
  | succ j ih =>
    intro m hm hw
    rcases List.eq_nil_or_concat m with rfl | ⟨L, b, rfl⟩
    · simp at hm
    · have hb := bounds_u8 (hw b (by simp))
      rw [List.concat_eq_append] at *
      rw [BM, LW, show (WK L * 256 + b) / 256 = WK L from by omega, show (WK L * 256 + b) % 256 = b from by omega, ih L (by simpa using hm) (fun n hn => hw n (by simp [hn]))]
theorem FQ : ∀ (k : Nat) (n : Int), 0 ≤ n → n < 2 ^ (8 * k) → WK (Wb k n) = n := by
  intro k
  induction k with
  | zero => intro n h0 h1; simp at h1; have : n = 0 := by omega
            subst this; rfl
  | succ k ih =>
    intro n h0 h1
    have h2 : n / 256 < 2 ^ (8 * k) := by
      rw [show 8 * (k + 1) = 8 * k + 8 from by omega, Int.pow_add] at h1
      exact Int.ediv_lt_of_lt_mul (by omega) h1
    rw [LW, BM, ih (n / 256) (by omega) h2]
    omega
theorem Ob (m : List Int) : ∀ x : Int, m.foldl (fun x c => x * 256 + c) x = x * 256 ^ m.length + WK m := by
  induction m with
  | nil => intro x; simp [WK]
  | cons c m ih =>
    intro x
    have h0 : WK (c :: m) = (0 * 256 + c) * 256 ^ m.length + WK m := ih (0 * 256 + c)
    rw [List.foldl_cons, ih, h0, List.length_cons, Int.pow_succ, Int.add_mul, Int.mul_assoc, Int.mul_comm 256, Int.zero_mul, Int.zero_add]
    omega
theorem Pg (c : Int) (m : List Int) : WK (c :: m) = c * 256 ^ m.length + WK m := by
  have := Ob m (0 * 256 + c)
  rw [WK, List.foldl_cons, this]
  simp
theorem Ph (j : Nat) : (256 : Int) ^ j = 2 ^ (8 * j) := by
  rw [Int.pow_mul]; rfl
theorem nB_eq (n : Int) (j : Nat) (h1 : 1 ≤ j) (h8 : j ≤ 8) (hlo : j = 1 ∨ 2 ^ (8 * (j - 1)) ≤ n) (hhi : n < 2 ^ (8 * j)) : nB n = j := by
  have hj : j = 1 ∨ j = 2 ∨ j = 3 ∨ j = 4 ∨ j = 5 ∨ j = 6 ∨ j = 7 ∨ j = 8 := by omega
  unfold nB
  rcases hj with rfl | rfl | rfl | rfl | rfl | rfl | rfl | rfl <;> simp only [Nat.reduceMul, Nat.reduceSub, Int.reducePow] at hlo hhi <;> (repeat' split) <;> omega
theorem nB_hi (n : Int) (h0 : 0 ≤ n) (h1 : n ≤ 4611686018427387904) : n < 2 ^ (8 * nB n) := by
  unfold nB
  (repeat' split) <;> simp only [Nat.reduceMul, Int.reducePow] <;> omega
theorem nB_lo (n : Int) (h0 : 248 ≤ n) : 0 < n / 2 ^ (8 * (nB n - 1)) ∧ n / 2 ^ (8 * (nB n - 1)) ≤ 255 ∨ 72057594037927936 ≤ n := by
  unfold nB
  (repeat' split) <;> simp only [Nat.reduceMul, Nat.reduceSub, Int.reducePow] <;> omega
theorem WZ (c : Int) (m : List Int) : gI (c :: m) 0 = c := rfl
theorem MR {l : List Int} (hw : ∀ n ∈ l, (Lit.int .u8 n).wf = true) {n k : Int} (h : Y5 l = (n, k, 0)) : VP n = l.take k.toNat := by
  cases l with
  | nil => simp [Y5] at h
  | cons c m =>
    have hc := bounds_u8 (hw c (by simp))
    have hwm : ∀ n ∈ m, (Lit.int .u8 n).wf = true := fun n hn => hw n (by simp [hn])
    unfold Y5 at h
    rw [if_neg (by simp)] at h
    rw [WZ, List.tail_cons, List.length_cons] at h
    by_cases h1 : c < 248
    · rw [if_pos h1] at h
      simp only [Prod.mk.injEq] at h
      obtain ⟨rfl, rfl, _⟩ := h
      unfold VP
      rw [if_pos h1]
      simp
    · rw [if_neg h1] at h
      by_cases h2 : ((m.length + 1 : Nat) : Int) ≤ c - 247
      · rw [if_pos h2] at h; simp at h
      rw [if_neg h2] at h
      obtain ⟨j, hj⟩ : ∃ j : Nat, c = 248 + j := ⟨(c - 248).toNat, by omega⟩
      have e1 : (c - 247).toNat = j + 1 := by omega
      rw [e1] at h
      have hlen : (m.take (j + 1)).length = j + 1 := by rw [List.length_take]; omega
      have hX := Dk (m.take (j + 1)) (fun n hn => hwm n (List.mem_of_mem_take hn))
      have hB := NB (j + 1) (m.take (j + 1)) hlen (fun n hn => hwm n (List.mem_of_mem_take hn))
      rw [hlen, Ph] at hX
      by_cases h3 : gI (c :: m) 1 = 0 ∨ WK (m.take (j + 1)) < 248 ∨ WK (m.take (j + 1)) > 4611686018427387904
      · rw [if_pos h3] at h; simp at h
      rw [if_neg h3] at h
      simp only [Prod.mk.injEq] at h
      obtain ⟨rfl, rfl, _⟩ := h
      have e2 : (c - 246).toNat = j + 2 := by omega
      rw [e2]
      cases m with
      | nil => simp at hlen
      | cons d m' =>
        have hd := bounds_u8 (hwm d (by simp))
        have hd0 : d ≠ 0 := fun e => h3 (.inl e)
        have hlo : j + 1 = 1 ∨ 2 ^ (8 * (j + 1 - 1)) ≤ WK ((d :: m').take (j + 1)) := by
          right
          have hl' : (m'.take j).length = j := by simpa using hlen
          have hm0 := (Dk (m'.take j) (fun n hn => hwm n (by simp [List.mem_of_mem_take hn]))).1
          rw [List.take_succ_cons, Pg, hl', Ph, Nat.add_sub_cancel]
          have hp : (0 : Int) ≤ 2 ^ (8 * j) := Int.pow_nonneg (by omega)
          have : 1 * (2 : Int) ^ (8 * j) ≤ d * 2 ^ (8 * j) := Int.mul_le_mul_of_nonneg_right (by omega) hp
          omega
        have hnB := nB_eq _ (j + 1) (by omega) (by omega) hlo hX.2
        unfold VP
        rw [if_neg (by omega), hnB, hB, show j + 2 = (j + 1) + 1 from rfl, List.take_succ_cons]
        congr 1
        omega
theorem GL (n : Int) (h0 : 0 ≤ n) (h1 : n ≤ 4611686018427387904) (rest : List Int) : Y5 (VP n ++ rest) = (n, ((VP n).length : Int), 0) := by
  by_cases hs : n < 248
  · unfold VP
    rw [if_pos hs]
    unfold Y5
    rw [if_neg (by simp), List.singleton_append, WZ, if_pos hs]
    rfl
  · have hr := Ur n
    have hhi := nB_hi n h0 h1
    have hv := FQ (nB n) n h0 hhi
    unfold VP
    rw [if_neg hs]
    unfold Y5
    rw [if_neg (by simp), List.cons_append, WZ, if_neg (by omega), if_neg (by simp [Zu]; omega)]
    have e1 : (247 + (nB n : Int) - 247).toNat = nB n := by omega
    have e2 : ((Wb (nB n) n ++ rest).take (nB n)) = Wb (nB n) n := by
      rw [List.take_append_of_le_length (by rw [Zu]; exact Nat.le_refl _), List.take_of_length_le (by rw [Zu]; exact Nat.le_refl _)]
    rw [e1, List.tail_cons, e2, hv]
    have hg : gI ((247 + (nB n : Int)) :: (Wb (nB n) n ++ rest)) 1 ≠ 0 := by
      obtain ⟨j, hj⟩ : ∃ j, nB n = j + 1 := ⟨nB n - 1, by omega⟩
      have hlo := nB_lo n (by omega)
      rw [hj] at hlo ⊢
      show n / 2 ^ (8 * j) % 256 ≠ 0
      rw [Nat.add_sub_cancel] at hlo
      rcases hlo with hlo | hlo
      · omega
      · have hj7 : j = 7 := by
          have : nB n = 8 := by
            unfold nB
            (repeat' split) <;> omega
          omega
        subst hj7
        simp only [Nat.reduceMul, Int.reducePow]
        omega
    rw [if_neg (by omega)]
    simp [Zu]
    omega
theorem IK {l : List Int} {N K : Nat} (hw : ∀ n ∈ l.tail, (Lit.int .u8 n).wf = true) (hc : VP (N : Int) = l.tail.take K) (h0 : 0 < l.length) (hl : 1 + K + N ≤ l.length) :
    Ku (gI l 0) ((l.drop (1 + K)).take N) = l.take (1 + K + N) := by
  have hN : ((l.drop (1 + K)).take N).length = N := by rw [List.length_take, List.length_drop]; omega
  unfold Ku
  rw [hN, hc]
  cases l with
  | nil => simp at h0
  | cons c m =>
    rw [WZ, List.tail_cons, show 1 + K = K + 1 from by omega, List.drop_succ_cons, show K + 1 + N = (K + N) + 1 from by omega, List.take_succ_cons, List.take_add]
    rfl
theorem Pi {l : List Int} {E : Nat} (hw : ∀ n ∈ l, (Lit.int .u8 n).wf = true) (hl : E + 4 ≤ l.length) :
    WK ((l.drop E).take 4) = C6 (l.take E) ↔ (l.drop E).take 4 = Wb 4 (C6 (l.take E)) := by
  have hX := C7 (l.take E)
  constructor
  · intro h
    rw [← h]
    exact (NB 4 _ (by rw [List.length_take, List.length_drop]; omega) (fun n hn => hw n (List.mem_of_mem_drop (List.mem_of_mem_take hn)))).symm
  · intro h
    rw [h, FQ 4 _ hX.1 (by simpa using hX.2)]
theorem Oc {a b : List Int} {n : Nat} (ha : a.length = n) (hb : b.length = n) (h : ∀ t, t < n → gI a t = gI b t) : a = b := by
  apply List.ext_getElem (by omega)
  intro i h1 h2
  have := h i (by omega)
  rwa [Bh h1, Bh h2] at this
theorem Pj (a : Int) (j : Nat) (h : j ≤ 8) : QR .i64 a (IntKind.i64.wrap (8 * (j : Int))) = a / 2 ^ (8 * j) := by
  rw [Zm (by omega)]
  unfold QR
  have e : min (8 * (j : Int)).toNat IntKind.i64.bits = 8 * j := by
    have : IntKind.i64.bits = 64 := rfl
    rw [this]; omega
  rw [e, Int.fdiv_eq_ediv_of_nonneg a (Int.le_of_lt (Int.pow_pos (by decide)))]
theorem BP (x : Int) : IntKind.u8.wrap x = x % 256 := by rw [IntKind.wrap_u8]
theorem W6 (n : Int) : KH n (Jg n, O8 n) := by
  unfold KH YV
  simp only [jn, Jw]
  by_cases hr : n < 0 ∨ n > 4611686018427387904
  · refine ⟨fun _ => by simp [Jg, O8, hr], fun h => ?_⟩
    simp at h; omega
  have hb : 0 ≤ n ∧ n ≤ 4611686018427387904 := by omega
  have eL : Jg n = VP n := by unfold Jg; rw [if_neg hr]
  have eE : O8 n = 0 := by unfold O8; rw [if_neg hr]
  rw [eL, eE]
  refine ⟨fun h => by simp at h; omega, fun _ => ⟨fun h => ?_, fun h => ?_⟩⟩
  · have h' : n < 248 := by simpa using h
    rw [BP, Int.emod_eq_of_lt hb.1 (by omega)]; unfold VP; rw [if_pos h']
  have h' : ¬ n < 248 := by simpa using h
  have hu : VP n = (247 + (nB n : Int)) :: Wb (nB n) n := by unfold VP; rw [if_neg h']
  rw [hu]
  have hnb := Ur n
  refine ZV (I := fun k s => ∃ j : Nat, s = (j : Int) ∧ 1 ≤ j ∧ j ≤ nB n ∧ k = 8 - j) ?_ (k := 7) ⟨1, rfl, by omega, by omega, rfl⟩
  rintro k s ⟨j, rfl, hj1, hj2, hk⟩ X hX
  rw [Pj n j (by omega)]
  refine ⟨fun _ => by rw [Zm (by omega)]; omega, fun h => ?_, fun h => ?_⟩
  · have h8 : j < 8 ∧ 0 < n / 2 ^ (8 * j) := by
      rw [Jl] at h; simp at h; exact ⟨by omega, h.2⟩
    rw [Zm (by omega)]
    refine hX (8 - (j + 1)) _ (by omega) ⟨j + 1, by simp, by omega, ?_, rfl⟩
    rcases Nat.lt_or_ge j (nB n) with hl | hl
    · omega
    · have := Pd n j hb.1 hb.2 hl (by omega); omega
  · have hjn : j = nB n := by
      rcases Nat.lt_or_ge j (nB n) with hl | hl
      · have := Pb n j (by omega) hl
        rw [Jl] at h; simp at h; omega
      · omega
    subst hjn
    rw [Zm (n := 247 + (nB n : Int)) (by omega), BP, Int.emod_eq_of_lt (by omega) (by omega), Zm (n := (nB n : Int) - 1) (by omega)]
    refine ZV (I := fun k s => ∃ m : Nat, s.2 = (m : Int) - 1 ∧ m ≤ nB n ∧ k = m ∧ s.1 ++ Wb m n = (247 + (nB n : Int)) :: Wb (nB n) n) ?_ (k := nB n) ⟨nB n, rfl, by omega, rfl, rfl⟩
    rintro k ⟨l, i⟩ ⟨m, hm, hm1, hk, hl⟩ X hX
    simp only at hm hl ⊢
    subst hm
    have hlen := IH hl
    simp [Zu] at hlen
    refine ⟨fun h => ?_, fun h => ?_⟩
    · have hm0 : 1 ≤ m := by simp at h; omega
      have em : (m : Int) - 1 = ((m - 1 : Nat) : Int) := by omega
      rw [em, Pj n (m - 1) (by omega), BP]
      refine ⟨by rw [Zm (by omega)]; omega, by simp; omega, ?_⟩
      rw [Zm (n := ((m - 1 : Nat) : Int) - 1) (by omega)]
      refine hX (m - 1) _ (by omega) ⟨m - 1, rfl, by omega, rfl, ?_⟩
      obtain ⟨j, rfl⟩ : ∃ j, m = j + 1 := ⟨m - 1, by omega⟩
      simpa using GJ hl
    · have hm0 : m = 0 := by simp at h; omega
      subst hm0
      simpa [Wb] using hl.symm
theorem BQ (n : Int) (hb : 0 ≤ n ∧ n ≤ 4611686018427387904) : QV n (VP n) := by
  unfold QV XC
  simp only [jn, shr8, BP]
  refine ⟨fun h => ?_, fun h => ?_⟩
  · have h' : n < 248 := by simpa using h
    rw [Int.emod_eq_of_lt hb.1 (by omega)]; unfold VP; rw [if_pos h']
  have h' : ¬ n < 248 := by simpa using h
  have hu : VP n = (247 + (nB n : Int)) :: Wb (nB n) n := by unfold VP; rw [if_neg h']
  rw [hu]
  have hnb := Ur n
  refine ZV (I := fun k s => ∃ j : Nat, s.1 = n / 2 ^ (8 * j) ∧ s.2 = Wb j n ∧ j ≤ nB n ∧ k = 8 - j) ?_ (k := 8) ⟨0, by simp, rfl, by omega, rfl⟩
  rintro k ⟨x, l⟩ ⟨j, hx, hl, hj, hk⟩ X hX
  simp only at hx hl ⊢
  subst hx; subst hl
  refine ⟨fun h => ?_, fun h => ?_⟩
  · have h0 : 0 < n / 2 ^ (8 * j) := by simpa using h
    have hlt : j < nB n := by
      rcases Nat.lt_or_ge j (nB n) with hl | hl
      · exact hl
      · have := Pd n j hb.1 hb.2 hl (by omega); omega
    refine ⟨by simp [Zu]; omega, hX (8 - (j + 1)) _ (by omega) ⟨j + 1, Pe n j, rfl, by omega, rfl⟩⟩
  · have h0 : ¬ 0 < n / 2 ^ (8 * j) := by simpa using h
    have hjn : j = nB n := by
      rcases Nat.lt_or_ge j (nB n) with hl | hl
      · exact absurd (Pb n j (by omega) hl) h0
      · omega
    subst hjn
    rw [Zu, Zm (by omega), Int.emod_eq_of_lt (by omega) (by omega)]
    exact ⟨by simp [Zu]; omega, rfl⟩
theorem IL {x : Int} (h : 0 ≤ x ∧ x ≤ 4294967295) : IntKind.u32.wrap x = x := by rw [IntKind.wrap_u32]; omega
theorem NC {l : List Int} (hl : l.length ≤ 4611686018427387904) (hw : ∀ c ∈ l, 0 ≤ c ∧ c ≤ 255) {J : Int × Int → Prop} (hJ : J (BN l)) :
    lp (fun (X2 : Int × Int × Int → Prop) (s2 : Int × Int × Int) => (((decide ((s2.2.2) < (((l).length : Int)))) = true → ∃ (v5 : Int), ix (l) (s2.2.2) v5 ∧ X2 (((IntKind.u32.wrap ((s2.1) + (IntKind.u32.wrap (v5)))).tmod (65521)), ((IntKind.u32.wrap ((s2.2.1) + ((IntKind.u32.wrap ((s2.1) + (IntKind.u32.wrap (v5)))).tmod (65521)))).tmod (65521)), (IntKind.i64.wrap ((s2.2.2) + (1))))) ∧ ((decide ((s2.2.2) < (((l).length : Int)))) = false → J ((s2.1), (s2.2.1))))) ((1), (0), (0)) := by
  refine ZV (I := fun k s => ∃ j : Nat, s.2.2 = (j : Int) ∧ j ≤ l.length ∧ k = l.length - j ∧ (s.1, s.2.1) = BN (l.take j)) ?_ (k := l.length) ⟨0, rfl, by omega, by omega, rfl⟩
  rintro k ⟨a, b, i⟩ ⟨j, hj, hj1, hk, hp⟩ X hX
  simp only at hj hp ⊢
  subst hj
  refine ⟨fun h => ?_, fun h => ?_⟩
  · have hj2 : j < l.length := by simp at h; omega
    obtain ⟨x, hx, hg⟩ := Kg (l := l) (n := (j : Int)) (by omega) (by omega)
    have hxw := hw x (List.mem_of_getElem? hg)
    have hr := Aw (l.take j)
    rw [← hp] at hr
    simp only at hr
    refine ⟨x, hx, ?_⟩
    have e : l.take (j + 1) = l.take j ++ [x] := by
      rw [List.take_add_one]; simp at hg; simp [hg]
    have t1 : (a + x).tmod 65521 = (a + x) % 65521 := JU (by omega)
    have t2 : (b + (a + x) % 65521).tmod 65521 = (b + (a + x) % 65521) % 65521 := JU (by omega)
    rw [IL (x := x) (by omega), IL (x := a + x) (by omega), t1, IL (by omega), t2, Zm (by omega)]
    refine hX (l.length - (j + 1)) _ (by omega) ⟨j + 1, by simp, by omega, rfl, ?_⟩
    rw [e, O9, ← hp]; rfl
  · have hj2 : j = l.length := by simp at h; omega
    subst hj2
    rw [List.take_length] at hp
    rw [hp]; exact hJ
theorem AH (l : List Int) (hl : l.length ≤ 4611686018427387904) (hw : ∀ c ∈ l, 0 ≤ c ∧ c ≤ 255) : V3 l (C6 l) := by
  unfold V3 WS
  simp only [jn]
  refine NC (J := fun p => C6 l = IntKind.u32.wrap (V4 .u32 p.2 16 + p.1)) hl hw ?_
  have hr := Aw l
  show C6 l = IntKind.u32.wrap (IntKind.u32.wrap ((BN l).2 * 65536) + (BN l).1)
  rw [IL (x := (BN l).2 * 65536) (by omega), IL (by omega)]; rfl
theorem FC (l : List Int) (hl : l.length ≤ 4611686018427387904) (hw : ∀ c ∈ l, 0 ≤ c ∧ c ≤ 255) : Jn l (C6 l) := by
  unfold Jn Jm
  simp only [jn]
  refine NC (J := fun p => C6 l = IntKind.u32.wrap (IntKind.u32.wrap (p.2 * 65536) + p.1)) hl hw ?_
  have hr := Aw l
  show C6 l = IntKind.u32.wrap (IntKind.u32.wrap ((BN l).2 * 65536) + (BN l).1)
  rw [IL (x := (BN l).2 * 65536) (by omega), IL (by omega)]; rfl
theorem GN (a : Int) (j : Nat) (h : j ≤ 32) : QR .u32 a (j : Int) = a / 2 ^ j := by
  unfold QR
  have e : min ((j : Int)).toNat IntKind.u32.bits = j := by
    have : IntKind.u32.bits = 32 := rfl
    rw [this]; omega
  rw [e, Int.fdiv_eq_ediv_of_nonneg a (Int.le_of_lt (Int.pow_pos (by decide)))]
theorem four (X : Int) (h : 0 ≤ X ∧ X < 4294967296) : [IntKind.u8.wrap (QR .u32 X 24), IntKind.u8.wrap (QR .u32 X 16), IntKind.u8.wrap (QR .u32 X 8), IntKind.u8.wrap X] = Wb 4 X := by
  have e1 : QR .u32 X 24 = X / 16777216 := GN X 24 (by decide)
  have e2 : QR .u32 X 16 = X / 65536 := GN X 16 (by decide)
  have e3 : QR .u32 X 8 = X / 256 := GN X 8 (by decide)
  rw [beB4 h.1 h.2, e1, e2, e3, BP, BP, BP, BP, Int.emod_eq_of_lt (a := X / 16777216) (by omega) (by omega)]
theorem C8 {t : Int} {l : List Int} (ht : 0 ≤ t ∧ t ≤ 255) (hw : ∀ c ∈ l, 0 ≤ c ∧ c ≤ 255) : ∀ c ∈ Ku t l, 0 ≤ c ∧ c ≤ 255 := by
  intro c hc
  unfold Ku at hc
  simp only [List.cons_append, List.mem_cons, List.mem_append] at hc
  rcases hc with rfl | h | h
  · exact ht
  · exact bounds_u8 (IJ _ (by omega) c h)
  · exact hw c h
theorem IM (t : Int) (l : List Int) (ht : 0 ≤ t ∧ t ≤ 255) (hw : ∀ c ∈ l, 0 ≤ c ∧ c ≤ 255) : YZ t l (ZZ t l, BO l) := by
  unfold YZ Ar
  by_cases h : l.length > 1048576
  · refine ⟨fun _ => by simp [ZZ, BO, h], fun h2 => by simp at h2; omega⟩
  · refine ⟨fun h2 => by simp at h2; omega, fun _ => ?_⟩
    have hL := JA (l.length : Int)
    have e : Jg (l.length : Int) = VP l.length := by unfold Jg; rw [if_neg (by omega)]
    have hh : (([t] ++ VP (l.length : Int)) ++ l) = Ku t l := by simp [Ku]
    have hl := Y6 t l
    refine ⟨_, W6 _, ?_⟩
    rw [e, hh]
    refine ⟨by simp; omega, by simp; omega, _, AH _ (by omega) (C8 ht hw), ?_⟩
    rw [four _ (C7 _)]
    exact ⟨by simp [Zu]; omega, by simp [ZZ, BO, h]⟩
theorem W7 (t : Int) (l : List Int) (ht : 0 ≤ t ∧ t ≤ 255) (hw : ∀ c ∈ l, 0 ≤ c ∧ c ≤ 255) : Zw t l (ZZ t l, BO l) := by
  unfold Zw VW
  by_cases h : l.length > 1048576
  · refine ⟨fun _ => by simp [ZZ, BO, h], fun h2 => by simp at h2; omega⟩
  · refine ⟨fun h2 => by simp at h2; omega, fun _ => ?_⟩
    have hL := JA (l.length : Int)
    have hh : (([t] ++ VP (l.length : Int)) ++ l) = Ku t l := by simp [Ku]
    have hl := Y6 t l
    refine ⟨_, BQ _ (by omega), ?_⟩
    rw [hh]
    refine ⟨by simp; omega, by simp; omega, _, FC _ (by omega) (C8 ht hw), ?_⟩
    rw [four _ (C7 _)]
    exact ⟨by simp [Zu]; omega, by simp [ZZ, BO, h]⟩
theorem LX (a : Int) (j : Nat) (h : j ≤ 64) : QR .u64 a (j : Int) = a / 2 ^ j := by
  unfold QR
  have e : min ((j : Int)).toNat IntKind.u64.bits = j := by
    have : IntKind.u64.bits = 64 := rfl
    rw [this]; omega
  rw [e, Int.fdiv_eq_ediv_of_nonneg a (Int.le_of_lt (Int.pow_pos (by decide)))]
theorem Eb (a : Int) : Ve a (Wb 8 a) := by
  unfold Ve YY
  simp only [jn]
  refine ZV (I := fun k s => ∃ m : Nat, s.2 = 8 * (m : Int) - 8 ∧ m ≤ 8 ∧ k = m ∧ s.1 ++ Wb m a = Wb 8 a) ?_ (k := 8) ⟨8, by decide, by omega, rfl, rfl⟩
  rintro k ⟨l, i⟩ ⟨m, hm, hm1, hk, hl⟩ X hX
  simp only at hm hl ⊢
  subst hm
  have hlen := IH hl
  simp [Zu] at hlen
  refine ⟨fun h => ?_, fun h => ?_⟩
  · have hm0 : 1 ≤ m := by simp at h; omega
    obtain ⟨j, rfl⟩ : ∃ j, m = j + 1 := ⟨m - 1, by omega⟩
    have em : 8 * ((j + 1 : Nat) : Int) - 8 = ((8 * j : Nat) : Int) := by omega
    rw [em, LX a (8 * j) (by omega), BP]
    refine ⟨by omega, by simp; omega, ?_⟩
    rw [Zm (by omega)]
    exact hX j _ (by omega) ⟨j, by simp only; omega, by omega, rfl, by simpa using GJ hl⟩
  · have hm0 : m = 0 := by simp at h; omega
    subst hm0
    simpa [Wb] using hl.symm
theorem LY (a : Int) : V8 a (Wb 8 a) := by
  unfold V8 XG
  simp only [jn]
  refine ZV (I := fun k s => ∃ m : Nat, s.2 = (m : Int) - 1 ∧ m ≤ 8 ∧ k = m ∧ s.1 ++ Wb m a = Wb 8 a) ?_ (k := 8) ⟨8, by decide, by omega, rfl, rfl⟩
  rintro k ⟨l, i⟩ ⟨m, hm, hm1, hk, hl⟩ X hX
  simp only at hm hl ⊢
  subst hm
  have hlen := IH hl
  simp [Zu] at hlen
  refine ⟨fun h => ?_, fun h => ?_⟩
  · have hm0 : 1 ≤ m := by simp at h; omega
    obtain ⟨j, rfl⟩ : ∃ j, m = j + 1 := ⟨m - 1, by omega⟩
    have em : ((j + 1 : Nat) : Int) - 1 = (j : Int) := by omega
    have e8 : IntKind.u64.wrap (IntKind.i64.wrap (8 * (j : Int))) = ((8 * j : Nat) : Int) := by rw [Zm (by omega), Aa (by omega)]; omega
    rw [em, e8, LX a (8 * j) (by omega), BP]
    refine ⟨by omega, by simp; omega, ?_⟩
    rw [Zm (by omega)]
    exact hX j _ (by omega) ⟨j, rfl, by omega, rfl, by simpa using GJ hl⟩
  · have hm0 : m = 0 := by simp at h; omega
    subst hm0
    simpa [Wb] using hl.symm
def UB (s : ByteArray) : List Int := if s.size > 65536 then [] else VP s.size ++ sI s
def txE (s : ByteArray) : Int := if s.size > 65536 then 11 else 0
theorem Pk {n : Nat} (h : n ≤ 4611686018427387904) : Jg (n : Int) = VP n ∧ O8 (n : Int) = 0 := by
  unfold Jg O8; rw [if_neg (by omega), if_neg (by omega)]; exact ⟨rfl, rfl⟩
theorem Ec (s : ByteArray) : Vd s (UB s, txE s) := by
  unfold Vd YX
  by_cases h : s.size > 65536
  · refine ⟨fun _ => by simp [UB, txE, h], fun h2 => by simp at h2; omega⟩
  · refine ⟨fun h2 => by simp at h2; omega, fun _ => ⟨_, W6 _, ?_⟩⟩
    have hL := JA (s.size : Int)
    have hs := Vr s
    rw [(Pk (n := s.size) (by omega)).1]
    exact ⟨by simp only; omega, by simp [UB, txE, h]⟩
theorem XQ (s : ByteArray) (h : s.size ≤ 65536) : K2 s (UB s) := by
  unfold K2 XH
  have hL := JA (s.size : Int)
  have hs := Vr s
  exact ⟨_, BQ _ (by omega), by omega, by simp [UB]; omega⟩
theorem Zi (n : Int) : (Jg n).length ≤ 9 := by
  unfold Jg; split
  · simp
  · exact JA n
theorem Jp (s : ByteArray) : (UB s).length ≤ 65545 := by
  unfold UB; split
  · simp
  · have hL := JA (s.size : Int)
    have hs := Vr s
    simp; omega
theorem Je (b : List Int) (l : List Int) (hb : b.length ≤ 1000000000) (hl : l.length ≤ 100000) : Zd ⟨b⟩ l ⟨b ++ l.flatMap Jg⟩ := by
  unfold Zd JQ
  refine ZV (I := fun k s => ∃ j : Nat, s.1 = (j : Int) ∧ j ≤ l.length ∧ k = l.length - j ∧ s.2 = b ++ (l.take j).flatMap Jg ∧ s.2.length ≤ b.length + 9 * j) ?_ (k := l.length) ⟨0, rfl, by omega, by omega, by simp, by simp⟩
  rintro k ⟨i, c⟩ ⟨j, hj, hj1, hk, hc, hlen⟩ X hX
  simp only at hj hc hlen ⊢
  subst hj
  refine ⟨fun h => ?_, fun h => ?_⟩
  · have hj2 : j < l.length := by simp at h; omega
    obtain ⟨x, hx, hg⟩ := Kg (l := l) (n := (j : Int)) (by omega) (by omega)
    have hL := Zi x
    refine ⟨x, hx, _, W6 x, by simp only; omega, ?_⟩
    rw [Zm (by omega)]
    refine hX (l.length - (j + 1)) _ (by omega) ⟨j + 1, by simp, by omega, rfl, ?_, by simp; omega⟩
    have e : l.take (j + 1) = l.take j ++ [x] := by rw [List.take_add_one]; simp at hg; simp [hg]
    rw [e, hc]; simp
  · have hj2 : j = l.length := by simp at h; omega
    subst hj2
    rw [hc, List.take_length]
theorem VL (b : List Int) (l : List ByteArray) (hb : b.length ≤ 100000000000) (hl : l.length ≤ 100000) : Zn ⟨b⟩ l ⟨b ++ l.flatMap UB⟩ := by
  unfold Zn Vk
  refine ZV (I := fun k s => ∃ j : Nat, s.1 = (j : Int) ∧ j ≤ l.length ∧ k = l.length - j ∧ s.2 = b ++ (l.take j).flatMap UB ∧ s.2.length ≤ b.length + 65545 * j) ?_ (k := l.length) ⟨0, rfl, by omega, by omega, by simp, by simp⟩
  rintro k ⟨i, c⟩ ⟨j, hj, hj1, hk, hc, hlen⟩ X hX
  simp only at hj hc hlen ⊢
  subst hj
  refine ⟨fun h => ?_, fun h => ?_⟩
  · have hj2 : j < l.length := by simp at h; omega
    obtain ⟨x, hx, hg⟩ := Kg (l := l) (n := (j : Int)) (by omega) (by omega)
    have hL := Jp x
    refine ⟨x, hx, _, Ec x, by simp only; omega, ?_⟩
    rw [Zm (by omega)]
    refine hX (l.length - (j + 1)) _ (by omega) ⟨j + 1, by simp, by omega, rfl, ?_, by simp; omega⟩
    have e : l.take (j + 1) = l.take j ++ [x] := by rw [List.take_add_one]; simp at hg; simp [hg]
    rw [e, hc]; simp
  · have hj2 : j = l.length := by simp at h; omega
    subst hj2
    rw [hc, List.take_length]
end Go.Proofs.YthlaenafkihjiaaGreat
namespace Go.Proofs.YthlaenafkihjiaaGreat
open Go.RowKit Go.ChangeShapes Go.WideShapes
theorem Pl (hd : Int) (bd s rest : List Int) (hb : bd.length ≤ 1048576) (hs : s.length = 4) :
    FP (hd :: (VP bd.length ++ (bd ++ (s ++ rest)))) =
      if WK s ≠ C6 (Ku hd bd) then (0, [], 0, 4) else (hd, bd, ((Ku hd bd).length : Int) + 4, 0) := by
  unfold FP
  rw [if_neg (by simp), List.tail_cons, GL _ (by omega) (by omega)]
  have e0 : (hd :: (VP bd.length ++ (bd ++ (s ++ rest)))) = Ku hd bd ++ (s ++ rest) := by simp [Ku]
  have hl := Y6 hd bd
  have hT : (Ku hd bd ++ (s ++ rest)).take (1 + (VP bd.length).length + bd.length) = Ku hd bd := by
    rw [← hl, List.take_left]
  have hD : (Ku hd bd ++ (s ++ rest)).drop (1 + (VP bd.length).length + bd.length) = s ++ rest := by
    rw [← hl, List.drop_left]
  have hS : (s ++ rest).take 4 = s := by rw [← hs, List.take_left]
  have hB : ((Ku hd bd ++ (s ++ rest)).drop (1 + (VP bd.length).length)).take bd.length = bd := by
    have : Ku hd bd ++ (s ++ rest) = (hd :: VP bd.length) ++ (bd ++ (s ++ rest)) := by simp [Ku]
    rw [this, show 1 + (VP bd.length).length = (hd :: VP bd.length).length from by simp; omega, List.drop_left, List.take_left]
  have hG : gI (Ku hd bd ++ (s ++ rest)) 0 = hd := rfl
  rw [e0]
  unfold Dl
  simp only [Int.toNat_natCast]
  rw [if_neg (by simp), if_neg (by omega), if_neg (by simp only [List.length_append, hl, hs]; omega), hT, hD, hS, hB, hG, hl]
  congr 3
theorem I1 (hd : Int) (bd rest : List Int) (hb : bd.length ≤ 1048576) : FP (ZZ hd bd ++ rest) = (hd, bd, ((ZZ hd bd).length : Int), 0) := by
  have hX := C7 (Ku hd bd)
  have hf : ZZ hd bd = Ku hd bd ++ Wb 4 (C6 (Ku hd bd)) := by unfold ZZ; rw [if_neg (by omega)]
  have hx : WK (Wb 4 (C6 (Ku hd bd))) = C6 (Ku hd bd) := FQ 4 _ hX.1 (by simpa using hX.2)
  have := Pl hd bd (Wb 4 (C6 (Ku hd bd))) rest hb (Zu 4 _)
  rw [if_neg (by rw [hx]; simp)] at this
  rw [hf, List.length_append, Zu]
  have e : Ku hd bd ++ Wb 4 (C6 (Ku hd bd)) ++ rest = hd :: (VP bd.length ++ (bd ++ (Wb 4 (C6 (Ku hd bd)) ++ rest))) := by simp [Ku]
  rw [e, this]
  simp
def Wa (l : List Int) : Prop := l.length ≤ 140737488355328 ∧ ∀ c ∈ l, (Lit.int .u8 c).wf = true
theorem Wa.drop {l : List Int} (h : Wa l) (n : Nat) : Wa (l.drop n) := ⟨by have := h.1; rw [List.length_drop]; omega, fun c hc => h.2 c (List.mem_of_mem_drop hc)⟩
theorem Wa.take {l : List Int} (h : Wa l) (n : Nat) : Wa (l.take n) := ⟨by have := h.1; rw [List.length_take]; omega, fun c hc => h.2 c (List.mem_of_mem_take hc)⟩
theorem Wa.b {l : List Int} (h : Wa l) : ∀ c ∈ l, 0 ≤ c ∧ c ≤ 255 := fun c hc => bounds_u8 (h.2 c hc)
theorem Wa.of {l : List Int} (hl : l.length ≤ 140737488355328) (h : ∀ c ∈ l, 0 ≤ c ∧ c ≤ 255) : Wa l := ⟨hl, fun c hc => wf_u8 (h c hc).1 (h c hc).2⟩
theorem GO {l : List Int} {j : Nat} (h : j < l.length) : ix l (j : Int) (gI l j) := ⟨by omega, by simp [gI, h]⟩
theorem ishl8 (X : Int) : V4 .u64 X 8 = IntKind.u64.wrap (X * 256) := rfl
theorem Sb (X : Int) : V4 .u32 X 8 = IntKind.u32.wrap (X * 256) := rfl
theorem Pm {X c : Int} (h0 : 0 ≤ X) (h1 : X < 72057594037927936) (c0 : 0 ≤ c) (c1 : c ≤ 255) : ME .u64 (V4 .u64 X 8) (IntKind.u64.wrap c) = X * 256 + c := by
  rw [ishl8, Aa (by omega), Aa (by omega)]
  exact Pf h0 h1 c0 c1
theorem R5 {X c : Int} (h0 : 0 ≤ X) (h1 : X < 16777216) (c0 : 0 ≤ c) (c1 : c ≤ 255) : ME .u32 (V4 .u32 X 8) (IntKind.u32.wrap c) = X * 256 + c := by
  rw [Sb, IL (by omega), IL (by omega)]
  exact MP h0 h1 c0 c1
theorem ND {q : List Int} (h8 : q.length ≤ 8) (hw : ∀ c ∈ q, (Lit.int .u8 c).wf = true) {J : Int × Int → Prop} (hJ : ∀ i, J (WK q, i)) :
    lp (fun (X : Int × Int → Prop) (s : Int × Int) => (((decide ((s.2) < ((q.length : Int)))) = true → ∃ (v : Int), ix q (s.2) v ∧ X ((ME .u64 (V4 .u64 (s.1) (8)) (IntKind.u64.wrap (v))), (IntKind.i64.wrap ((s.2) + (1))))) ∧ ((decide ((s.2) < ((q.length : Int)))) = false → J s))) ((0), (0)) := by
  refine ZV (I := fun k s => ∃ j : Nat, s.2 = (j : Int) ∧ j ≤ q.length ∧ k = q.length - j ∧ s.1 = WK (q.take j)) ?_ (k := q.length) ⟨0, rfl, by omega, by omega, rfl⟩
  rintro k ⟨x, i⟩ ⟨j, hj, hj1, hk, hx⟩ X hX
  simp only at hj hx ⊢
  subst hj; subst hx
  refine ⟨fun h => ?_, fun h => ?_⟩
  · have hj2 : j < q.length := by simp at h; omega
    obtain ⟨c, hc, hg⟩ := Kg (l := q) (n := (j : Int)) (by omega) (by omega)
    have hcw := bounds_u8 (hw c (List.mem_of_getElem? hg))
    have hb := LV q hw j (by omega)
    refine ⟨c, hc, ?_⟩
    rw [Zm (by omega), Pm hb.1 hb.2 hcw.1 hcw.2]
    refine hX (q.length - (j+1)) _ (by omega) ⟨j+1, by simp, by omega, rfl, ?_⟩
    have e : q.take (j+1) = q.take j ++ [c] := by rw [List.take_add_one]; simp at hg; simp [hg]
    simp only
    rw [e, BM]
  · have hj2 : j = q.length := by simp at h; omega
    rw [List.take_of_length_le (by omega)]
    exact hJ _
theorem Pn {q : List Int} (h8 : q.length ≤ 4) (hw : ∀ c ∈ q, (Lit.int .u8 c).wf = true) {J : Int × Int → Prop} (hJ : ∀ i, J (WK q, i)) :
    lp (fun (X : Int × Int → Prop) (s : Int × Int) => (((decide ((s.2) < ((q.length : Int)))) = true → ∃ (v : Int), ix q (s.2) v ∧ X ((ME .u32 (V4 .u32 (s.1) (8)) (IntKind.u32.wrap (v))), (IntKind.i64.wrap ((s.2) + (1))))) ∧ ((decide ((s.2) < ((q.length : Int)))) = false → J s))) ((0), (0)) := by
  refine ZV (I := fun k s => ∃ j : Nat, s.2 = (j : Int) ∧ j ≤ q.length ∧ k = q.length - j ∧ s.1 = WK (q.take j)) ?_ (k := q.length) ⟨0, rfl, by omega, by omega, rfl⟩
  rintro k ⟨x, i⟩ ⟨j, hj, hj1, hk, hx⟩ X hX
  simp only at hj hx ⊢
  subst hj; subst hx
  refine ⟨fun h => ?_, fun h => ?_⟩
  · have hj2 : j < q.length := by simp at h; omega
    obtain ⟨c, hc, hg⟩ := Kg (l := q) (n := (j : Int)) (by omega) (by omega)
    have hcw := bounds_u8 (hw c (List.mem_of_getElem? hg))
    have hb := Oa q hw j (by omega)
    refine ⟨c, hc, ?_⟩
    rw [Zm (by omega), R5 hb.1 hb.2 hcw.1 hcw.2]
    refine hX (q.length - (j+1)) _ (by omega) ⟨j+1, by simp, by omega, rfl, ?_⟩
    have e : q.take (j+1) = q.take j ++ [c] := by rw [List.take_add_one]; simp at hg; simp [hg]
    simp only
    rw [e, BM]
  · have hj2 : j = q.length := by simp at h; omega
    rw [List.take_of_length_le (by omega)]
    exact hJ _
theorem W8 (l : List Int) (B : Wa l) : KI l (Y5 l) := by
  obtain ⟨hl, hw⟩ := B
  unfold KI W0
  simp only [jn, Jw]
  refine ⟨fun h => ?_, fun h => ?_⟩
  · have : l = [] := by simpa using h
    subst this; rfl
  have h0 : l ≠ [] := by intro e; subst e; simp at h
  have hp : 0 < l.length := List.length_pos_iff.2 h0
  have g0 := MY hw 0
  have i0 : ix l 0 (gI l 0) := GO (j := 0) hp
  refine ⟨_, i0, fun h => ?_, fun h => ?_⟩
  · have h1 : gI l 0 < 248 := by simpa using h
    refine ⟨_, i0, ?_⟩
    unfold Y5; rw [if_neg h0, if_pos h1, Zm (by omega)]
  have h1 : ¬ gI l 0 < 248 := by simpa using h
  refine ⟨_, i0, ?_⟩
  have e1 : IntKind.i64.wrap (1 + IntKind.i64.wrap (IntKind.i64.wrap (IntKind.i64.wrap (gI l 0) - 248) + 1)) = gI l 0 - 246 := by
    rw [Zm (n := gI l 0) (by omega), Zm (n := gI l 0 - 248) (by omega), Zm (n := gI l 0 - 248 + 1) (by omega), Zm (by omega)]; omega
  rw [e1]
  refine ⟨fun h => ?_, fun h => ?_⟩
  · have h2 : (l.length : Int) ≤ gI l 0 - 247 := by simp at h; omega
    unfold Y5; rw [if_neg h0, if_neg h1, if_pos h2]
  have h2 : ¬ (l.length : Int) ≤ gI l 0 - 247 := by simp at h; omega
  refine ⟨by omega, ?_⟩
  obtain ⟨m, hm⟩ : ∃ m : Nat, gI l 0 - 247 = (m : Int) := ⟨(gI l 0 - 247).toNat, by omega⟩
  have e2 : List.drop (Int.toNat 1) (List.take (Int.toNat (gI l 0 - 246)) l) = l.tail.take m := by
    have e3 : (gI l 0 - 246).toNat = m + 1 := by omega
    rw [e3]
    cases l with
    | nil => exact absurd rfl h0
    | cons c r => rfl
  rw [e2]
  have lm : (l.tail.take m).length = m := by simp; omega
  have wm : ∀ c ∈ l.tail.take m, (Lit.int .u8 c).wf = true := fun c hc => hw c (List.mem_of_mem_tail (List.mem_of_mem_take hc))
  have hd : Y5 l = if gI l 1 = 0 ∨ WK (l.tail.take m) < 248 ∨ WK (l.tail.take m) > 4611686018427387904 then (0,0,2) else (WK (l.tail.take m), gI l 0 - 246, 0) := by
    unfold Y5; rw [if_neg h0, if_neg h1, if_neg h2, hm]; rfl
  have hx0 := (Dk _ wm).1
  refine ND ?_ wm (fun i => ?_)
  · omega
  simp only
  refine ⟨gI l 1, GO (j := 1) (by omega), fun h => ?_, fun h => ?_⟩
  · rw [hd, if_pos (by simpa [or_assoc] using h)]
  · have h3 : ¬ (gI l 1 = 0 ∨ WK (l.tail.take m) < 248 ∨ WK (l.tail.take m) > 4611686018427387904) := by
      intro c; simp only [Bool.or_eq_false_iff, decide_eq_false_iff_not, beq_eq_false_iff_ne] at h; omega
    rw [hd, if_neg h3, Zm (by omega)]
theorem Ed (l : List Int) (B : Wa l) : Vg l (E9 l) := by
  obtain ⟨hl, hw⟩ := B
  unfold Vg W3
  simp only [jn]
  refine ⟨fun h => ?_, fun h => ?_⟩
  · have h' : l.length < 8 := by simp at h; omega
    unfold E9; rw [if_pos h']
  have h' : ¬ l.length < 8 := by simp at h; omega
  refine ⟨by omega, ?_⟩
  have e : List.take (Int.toNat 8) l = l.take 8 := rfl
  rw [e]
  refine ND ?_ (fun c hc => hw c (List.mem_of_mem_take hc)) (fun i => ?_)
  · simp; omega
  unfold E9; rw [if_neg h']
theorem Ee (l : List Int) (B : Wa l) : Vf l (Ci l) := by
  obtain ⟨hl, hw⟩ := B
  unfold Vf W2
  obtain ⟨n, k, e, hd⟩ : ∃ n k e, Y5 l = (n, k, e) := ⟨_, _, _, rfl⟩
  have ht : Ci l = Ea l (n, k, e) := by unfold Ci; rw [hd]
  refine ⟨Y5 l, W8 l ⟨hl, hw⟩, ?_⟩
  rw [hd, ht]
  simp only
  refine ⟨fun h => ?_, fun h => ?_⟩
  · have he : e ≠ 0 := by simpa using h
    unfold Ea; rw [if_pos he]
  have he : e = 0 := by simpa using h
  subst he
  have hk := C5 hw hd
  refine ⟨fun h => ?_, fun h => ?_⟩
  · have h1 : n > 65536 := by simpa using h
    unfold Ea; rw [if_neg (by simp), if_pos h1]
  have h1 : ¬ n > 65536 := by simpa using h
  have e1 : IntKind.i64.wrap ((l.length : Int) - k) = (l.length : Int) - k := Zm (by omega)
  have e2 : IntKind.i64.wrap (k + n) = k + n := Zm (by omega)
  rw [e1, e2]
  refine ⟨fun h => ?_, fun h => ?_⟩
  · have h2 : (l.length : Int) - k < n := by simpa using h
    unfold Ea; rw [if_neg (by simp), if_neg h1, if_pos h2]
  have h2 : ¬ (l.length : Int) - k < n := by simpa using h
  refine ⟨by omega, ?_⟩
  unfold Ea; rw [if_neg (by simp), if_neg h1, if_neg h2]
  have e3 : (k + n).toNat = k.toNat + n.toNat := by omega
  have e4 : List.drop k.toNat (List.take (k.toNat + n.toNat) l) = List.take n.toNat (List.drop k.toNat l) := by
    rw [List.drop_take]; congr 1; omega
  rw [e3, e4]
theorem BR (l : List Int) (B : Wa l) : XP l (FP l) := by
  have B' := B
  obtain ⟨hl, hw⟩ := B
  unfold XP Um
  simp only [jn]
  refine ⟨fun h => ?_, fun h => ?_⟩
  · have : l = [] := by simpa using h
    subst this; rfl
  have h0 : l ≠ [] := by intro e; subst e; simp at h
  have hp : 0 < l.length := List.length_pos_iff.2 h0
  have et : List.drop (Int.toNat 1) l = l.tail := by cases l <;> rfl
  rw [et]
  have Bt : Wa l.tail := by rw [← et]; exact B'.drop _
  obtain ⟨n, k, e, hd⟩ : ∃ n k e, Y5 l.tail = (n, k, e) := ⟨_, _, _, rfl⟩
  have hu : FP l = Dl l (n, k, e) := by unfold FP; rw [if_neg h0, hd]
  refine ⟨by omega, Y5 l.tail, W8 _ Bt, ?_⟩
  rw [hd, hu]
  simp only
  refine ⟨fun h => ?_, fun h => ?_⟩
  · have he : e ≠ 0 := by simpa using h
    unfold Dl; rw [if_pos he]
  have he : e = 0 := by simpa using h
  subst he
  have hk := C5 Bt.2 hd
  have lt : l.tail.length = l.length - 1 := by simp
  refine ⟨fun h => ?_, fun h => ?_⟩
  · have h1 : n > 1048576 := by simpa using h
    unfold Dl; rw [if_neg (by simp), if_pos h1]
  have h1 : ¬ n > 1048576 := by simpa using h
  have e1 : IntKind.i64.wrap (1 + k) = 1 + k := Zm (by omega)
  have e2 : IntKind.i64.wrap (1 + k + n) = 1 + k + n := Zm (by omega)
  have e3 : IntKind.i64.wrap (1 + k + n + 4) = 1 + k + n + 4 := Zm (by omega)
  rw [e1, e2, e3]
  refine ⟨fun h => ?_, fun h => ?_⟩
  · have h2 : (l.length : Int) < 1 + k + n + 4 := by simpa using h
    unfold Dl; rw [if_neg (by simp), if_neg h1, if_pos h2]
  have h2 : ¬ (l.length : Int) < 1 + k + n + 4 := by simpa using h
  refine ⟨by omega, ?_⟩
  obtain ⟨K, hK⟩ : ∃ K : Nat, k = (K : Int) := ⟨k.toNat, by omega⟩
  obtain ⟨M, hM⟩ : ∃ M : Nat, n = (M : Int) := ⟨n.toNat, by omega⟩
  subst hK; subst hM
  have a1 : Int.toNat (1 + (K : Int) + (M : Int)) = 1 + K + M := by omega
  have a2 : Int.toNat (1 + (K : Int) + (M : Int) + 4) = 1 + K + M + 4 := by omega
  have a3 : Int.toNat (1 + (K : Int)) = 1 + K := by omega
  rw [a1, a2, a3]
  have d1 : List.drop (1 + K + M) (List.take (1 + K + M + 4) l) = List.take 4 (List.drop (1 + K + M) l) := by
    rw [List.drop_take]; congr 1; omega
  have d2 : List.drop (1 + K) (List.take (1 + K + M) l) = List.take M (List.drop (1 + K) l) := by
    rw [List.drop_take]; congr 1; omega
  rw [d1, d2]
  refine Pn ?_ (fun c hc => hw c (List.mem_of_mem_drop (List.mem_of_mem_take hc))) (fun i => ?_)
  · simp; omega
  simp only
  refine ⟨by omega, C6 (l.take (1 + K + M)), AH _ ?_ ?_, fun h => ?_, fun h => ?_⟩
  · simp; omega
  · exact (B'.take _).b
  · have h3 : WK (List.take 4 (List.drop (1 + K + M) l)) ≠ C6 (List.take (1 + K + M) l) := by simpa using h
    unfold Dl; simp only [Int.toNat_natCast]; rw [if_neg (by simp), if_neg h1, if_neg h2, if_pos h3]
  · have h3 : ¬ WK (List.take 4 (List.drop (1 + K + M) l)) ≠ C6 (List.take (1 + K + M) l) := by simpa using h
    refine ⟨gI l 0, GO (j := 0) hp, by omega, ?_, ?_⟩
    · simp; omega
    · unfold Dl; simp only [Int.toNat_natCast]; rw [if_neg (by simp), if_neg h1, if_neg h2, if_neg h3]; simp
def Y7 (n lo hi : Int) : Int := if lo ≤ n ∧ n ≤ hi then 0 else 5
def AZ (n m : Int) : Int := if n > m then 11 else 0
def Ze (x : Qu) (f : Nat) : Int :=
  match f with
  | 0 => BL x.fb1
  | 1 => BL x.fa5
  | 2 => HY x.fy
  | 3 => WJ x.fa.ff x.fa.fh x.fa.fp x.fa.fv
  | 4 => I0 x.fj
  | 5 => AZ x.fa2.length 64
  | 6 => Y7 x.f6 1 1048576
  | 7 => Y7 x.f9 1 1048576
  | 8 => Y7 x.fa0 0 3
  | 9 => Y7 x.fa4 0 15
  | 10 => Y7 x.fa1 0 3
  | 11 => Y7 x.fo 0 32
  | 12 => US x.fi.ff x.fi.f3 x.fi.fo x.fi.fa9 x.fi.fa7
  | _ => AZ x.fa6.length 65536
theorem KN (n lo hi : Int) : Zo n lo hi (Y7 n lo hi) := Yc.2 rfl
theorem UC (l : List Int) (m : Int) : Jk l m (AZ l.length m) := by
  unfold Jk YR AZ
  by_cases h : (l.length : Int) > m <;> simp [h]
theorem Eg (x : Qu) {f : Nat} (hf : f < 14) : Va x (f : Int) (Ze x f) := by
  unfold Va YS
  rcases YT hf with rfl | rfl | rfl | rfl | rfl | rfl | rfl | rfl | rfl | rfl | rfl | rfl | rfl | rfl
  · simp; exact Wq x.fb1
  · simp; exact Wq x.fa5
  · simp; exact ER x.fy
  · simp; exact A9 x.fa
  · simp; exact E8 x.fj
  · simp; exact UC x.fa2 64
  · simp; exact KN x.f6 1 1048576
  · simp; exact KN x.f9 1 1048576
  · simp; exact KN x.fa0 0 3
  · simp; exact KN x.fa4 0 15
  · simp; exact KN x.fa1 0 3
  · simp; exact KN x.fo 0 32
  · simp; exact EQ x.fi
  · simp; exact UC x.fa6 65536
theorem NE {α : Type} {f : α → Int} (h : ∀ x, 0 ≤ f x ∧ f x ≤ 18) (l : List α) : 0 ≤ AY f l ∧ AY f l ≤ 18 := by
  induction l with
  | nil => simp [AY]
  | cons a r ih => (unfold AY; split; exact h a; exact ih)
theorem R6 (x : Qu) (f : Nat) : 0 ≤ Ze x f ∧ Ze x f ≤ 18 := by
  have hn : ∀ s, 0 ≤ BL s ∧ BL s ≤ 18 := by intro s; unfold BL; split <;> decide
  have hi : ∀ s, 0 ≤ FN s ∧ FN s ≤ 18 := by
      intro s; unfold FN; repeat' split
      all_goals decide
  have hs : ∀ n m, 0 ≤ AZ n m ∧ AZ n m ≤ 18 := by intro n m; unfold AZ; split <;> decide
  have hr : ∀ n a b, 0 ≤ Y7 n a b ∧ Y7 n a b ≤ 18 := by intro n a b; unfold Y7; split <;> decide
  have hl := NE hn
  have hl2 := NE hi
  unfold Ze
  split
  · exact hn _
  · exact hn _
  · unfold HY; (split; decide; exact hl _)
  · unfold WJ; repeat' split
    all_goals decide
  · unfold I0; (split; decide; exact hl2 _)
  · exact hs _ _
  · exact hr _ _ _
  · exact hr _ _ _
  · exact hr _ _ _
  · exact hr _ _ _
  · exact hr _ _ _
  · exact hr _ _ _
  · unfold US; repeat' split
    all_goals decide
  · exact hs _ _
theorem Sc {L : List Int} (h : ∀ e ∈ L, 0 ≤ e ∧ e ≤ 18) : 0 ≤ UA L ∧ UA L ≤ 18 := by
  induction L with
  | nil => simp [UA]
  | cons a r ih => (unfold UA; split; exact h a (by simp); exact ih fun e he => h e (by simp [he]))
def Jf (x : Qu) : Int := EO (W9 x) (Ze x)
theorem R7 (x : Qu) : 0 ≤ Jf x ∧ Jf x ≤ 18 := by
  have h : 0 ≤ UA (Ut (W9 x).kind (Ze x)) ∧ UA (Ut (W9 x).kind (Ze x)) ≤ 18 := by
    refine Sc fun e he => ?_
    unfold Ut at he
    obtain ⟨f, _, rfl⟩ := List.mem_map.1 he
    (split; exact R6 _ _; decide)
  unfold Jf EO
  split
  · decide
  · split
    · exact h
    · split <;> decide
theorem WL (x : Qu) : Vb x (Jf x) := by
  refine ⟨?_, Ze x, fun f hf _ => Eg x hf, rfl⟩
  have h := R7 x
  simp [Lit.wf, IntKind.min, IntKind.max, IntKind.signed, IntKind.bits]; omega
theorem Od {k : Int} (hk : Kd k) : [ZY k 0, ZY k 1, ZY k 2, ZY k 3, ZY k 4, ZY k 5, ZY k 6, ZY k 7, ZY k 8, ZY k 9, ZY k 10, ZY k 11, ZY k 12, ZY k 13] = [(Av k).fe0, (Av k).fe1, (Av k).fe2, (Av k).fe3, (Av k).fe4, (Av k).fe5, (Av k).fe6, (Av k).fe6, (Av k).fe7, (Av k).fe8, (Av k).fe9, (Av k).fe10, (Av k).fe11, (Av k).fe12] := by
  rcases GD hk with rfl | rfl | rfl | rfl | rfl | rfl | rfl | rfl | rfl | rfl | rfl | rfl | rfl | rfl | rfl | rfl | rfl <;> decide
theorem LZ {x : Qu} (h : ¬ Kd x.ff) : Jf x = 8 := by unfold Jf EO; rw [if_pos (by simpa [W9] using h)]
theorem Po {x : Qu} (hk : Kd x.ff) {b0 b1 b2 b3 b4 b5 b6 b7 b8 b9 b10 b11 b12 : Bool} (hu : Av x.ff = KC.mk b0 b1 b2 b3 b4 b5 b6 b7 b8 b9 b10 b11 b12) :
    Jf x = if UA [if b0 = true then Ze x 0 else 0, if b1 = true then Ze x 1 else 0, if b2 = true then Ze x 2 else 0, if b3 = true then Ze x 3 else 0, if b4 = true then Ze x 4 else 0, if b5 = true then Ze x 5 else 0, if b6 = true then Ze x 6 else 0, if b6 = true then Ze x 7 else 0, if b7 = true then Ze x 8 else 0, if b8 = true then Ze x 9 else 0, if b9 = true then Ze x 10 else 0, if b10 = true then Ze x 11 else 0, if b11 = true then Ze x 12 else 0, if b12 = true then Ze x 13 else 0] ≠ 0 then UA [if b0 = true then Ze x 0 else 0, if b1 = true then Ze x 1 else 0, if b2 = true then Ze x 2 else 0, if b3 = true then Ze x 3 else 0, if b4 = true then Ze x 4 else 0, if b5 = true then Ze x 5 else 0, if b6 = true then Ze x 6 else 0, if b6 = true then Ze x 7 else 0, if b7 = true then Ze x 8 else 0, if b8 = true then Ze x 9 else 0, if b9 = true then Ze x 10 else 0, if b10 = true then Ze x 11 else 0, if b11 = true then Ze x 12 else 0, if b12 = true then Ze x 13 else 0]
      else if ((b0 || x.fb1.toList == []) && (b1 || x.fa5.toList == []) && (b2 || decide (x.fy.length = 0)) && (b3 || decide (x.fa.ff = 0 ∧ x.fa.fh = 0 ∧ x.fa.fp = 0 ∧ x.fa.fv = 0)) && (b4 || decide (x.fj.length = 0)) && (b5 || decide (x.fa2.length = 0)) && (b6 || decide (x.f6 = 0)) && (b6 || decide (x.f9 = 0)) && (b7 || decide (x.fa0 = 0)) && (b8 || decide (x.fa4 = 0)) && (b9 || decide (x.fa1 = 0)) && (b10 || decide (x.fo = 0)) && (b11 || decide (x.fi.ff = 0 ∧ x.fi.f3.toList = [] ∧ x.fi.fo = 0 ∧ x.fi.fa9 = 0 ∧ x.fi.fa7 = 0)) && (b12 || decide (x.fa6.length = 0))) = true then 0 else 18 := by
  have h := Od hk
  rw [hu] at h
  simp only [List.cons.injEq, and_true] at h
  obtain ⟨m0, m1, m2, m3, m4, m5, m6, m7, m8, m9, m10, m11, m12, m13⟩ := h
  have r14 : List.range 14 = [0, 1, 2, 3, 4, 5, 6, 7, 8, 9, 10, 11, 12, 13] := by decide
  have e : Ut x.ff (Ze x) = [if b0 = true then Ze x 0 else 0, if b1 = true then Ze x 1 else 0, if b2 = true then Ze x 2 else 0, if b3 = true then Ze x 3 else 0, if b4 = true then Ze x 4 else 0, if b5 = true then Ze x 5 else 0, if b6 = true then Ze x 6 else 0, if b6 = true then Ze x 7 else 0, if b7 = true then Ze x 8 else 0, if b8 = true then Ze x 9 else 0, if b9 = true then Ze x 10 else 0, if b10 = true then Ze x 11 else 0, if b11 = true then Ze x 12 else 0, if b12 = true then Ze x 13 else 0] := by
    unfold Ut; rw [r14]
    simp only [List.map_cons, List.map_nil, m0, m1, m2, m3, m4, m5, m6, m7, m8, m9, m10, m11, m12, m13]
  have z : ((List.range 14).all fun f => ZY x.ff f || Ap (W9 x) f) = ((b0 || x.fb1.toList == []) && (b1 || x.fa5.toList == []) && (b2 || decide (x.fy.length = 0)) && (b3 || decide (x.fa.ff = 0 ∧ x.fa.fh = 0 ∧ x.fa.fp = 0 ∧ x.fa.fv = 0)) && (b4 || decide (x.fj.length = 0)) && (b5 || decide (x.fa2.length = 0)) && (b6 || decide (x.f6 = 0)) && (b6 || decide (x.f9 = 0)) && (b7 || decide (x.fa0 = 0)) && (b8 || decide (x.fa4 = 0)) && (b9 || decide (x.fa1 = 0)) && (b10 || decide (x.fo = 0)) && (b11 || decide (x.fi.ff = 0 ∧ x.fi.f3.toList = [] ∧ x.fi.fo = 0 ∧ x.fi.fa9 = 0 ∧ x.fi.fa7 = 0)) && (b12 || decide (x.fa6.length = 0))) := by
    rw [r14]
    simp only [List.all_cons, List.all_nil, Bool.and_true, m0, m1, m2, m3, m4, m5, m6, m7, m8, m9, m10, m11, m12, m13, Bool.and_assoc]
    simp only [Ap, W9, List.length_map]
    rfl
  unfold Jf EO
  rw [if_neg (by simpa [W9] using hk)]
  change (if UA (Ut x.ff (Ze x)) ≠ 0 then UA (Ut x.ff (Ze x)) else if (List.range 14).all (fun f => ZY x.ff f || Ap (W9 x) f) = true then 0 else 18) = _
  rw [e, z]
theorem Pp (L : List Int) (t : Int) : UA (L ++ [t]) = if UA L ≠ 0 then UA L else t := by
  induction L with
  | nil => by_cases h : t = 0 <;> simp [UA, h]
  | cons a r ih =>
    by_cases h : a ≠ 0
    · simp [UA, h]
    · have h0 : a = 0 := by simpa using h
      simp only [List.cons_append, UA, h0, ne_eq, not_true, if_false]; exact ih
theorem Yl {V a : Int} {r : List Int} (h : V = UA (a :: r)) (h0 : a = 0) : V = UA r := by rw [h, UA, if_neg (by simp [h0])]
theorem M0 {V a : Int} {r : List Int} (h : V = UA (a :: r)) (h0 : a ≠ 0) : V = a := by rw [h, UA, if_pos h0]
theorem UU {V a b : Int} {r : List Int} (h : V = UA (a :: r)) (h0 : a = b) (hb : b ≠ 0) : V = b := by rw [M0 h (by rw [h0]; exact hb), h0]
def bz (b : Bool) (c : Int) : Int := if b = true then c else 0
theorem Ho {b : Bool} {c : Int} (h : b = true) : bz b c = c := by rw [bz, if_pos h]
theorem R8 {b : Bool} {c : Int} (h : b = false) : bz b c = 0 := by rw [bz, if_neg (by simp [h])]
theorem Pq {b w : Bool} {c : Int} (h : ¬ bz b (if w = true then 0 else c) = 0) : bz b (if w = true then 0 else c) = c := by cases b <;> cases w <;> simp_all [bz]
theorem Rp {b0 b1 n0 n1 : Bool} {c : Int} (hc : c ≠ 0) (h : (b0 && !n0 || b1 && !n1) = true) (h0 : bz b0 (if n0 = true then 0 else c) = 0) : bz b1 (if n1 = true then 0 else c) = c := by
  cases b0 <;> cases b1 <;> cases n0 <;> cases n1 <;> simp_all [bz]
theorem Rq {b w : Bool} {c : Int} (h : (b && !w) = false) : bz b (if w = true then 0 else c) = 0 := by cases b <;> cases w <;> simp_all [bz]
theorem d_or4 {b0 b1 b2 b3 n0 n1 n2 n3 : Bool} {c : Int} (hc : c ≠ 0) (h : (b0 && !n0 || b1 && !n1 || b2 && !n2 || b3 && !n3) = true) (h0 : bz b0 (if n0 = true then 0 else c) = 0) (h1 : bz b1 (if n1 = true then 0 else c) = 0) (h2 : bz b2 (if n2 = true then 0 else c) = 0) : bz b3 (if n3 = true then 0 else c) = c := by
  cases b0 <;> cases n0 <;> cases b1 <;> cases n1 <;> cases b2 <;> cases n2 <;> simp_all [bz]
def Pr (x : Qu) (u : KC) : Int := if ((u.fe0 || x.fb1.toList == []) && (u.fe1 || x.fa5.toList == []) && (u.fe2 || decide (x.fy.length = 0)) && (u.fe3 || decide (x.fa.ff = 0 ∧ x.fa.fh = 0 ∧ x.fa.fp = 0 ∧ x.fa.fv = 0)) && (u.fe4 || decide (x.fj.length = 0)) && (u.fe5 || decide (x.fa2.length = 0)) && (u.fe6 || decide (x.f6 = 0)) && (u.fe6 || decide (x.f9 = 0)) && (u.fe7 || decide (x.fa0 = 0)) && (u.fe8 || decide (x.fa4 = 0)) && (u.fe9 || decide (x.fa1 = 0)) && (u.fe10 || decide (x.fo = 0)) && (u.fe11 || decide (x.fi.ff = 0 ∧ x.fi.f3.toList = [] ∧ x.fi.fo = 0 ∧ x.fi.fa9 = 0 ∧ x.fi.fa7 = 0)) && (u.fe12 || decide (x.fa6.length = 0))) = true then 0 else 18
theorem R9 {x : Qu} (hk : Kd x.ff) {b0 b1 b2 b3 b4 b5 b6 b7 b8 b9 b10 b11 b12 : Bool} (hu : Av x.ff = KC.mk b0 b1 b2 b3 b4 b5 b6 b7 b8 b9 b10 b11 b12) :
    Jf x = UA [bz b0 (Ze x 0), bz b1 (Ze x 1), bz b2 (Ze x 2), bz b3 (Ze x 3), bz b4 (Ze x 4), bz b5 (Ze x 5), bz b6 (Ze x 6), bz b6 (Ze x 7), bz b7 (Ze x 8), bz b8 (Ze x 9), bz b9 (Ze x 10), bz b10 (Ze x 11), bz b11 (Ze x 12), bz b12 (Ze x 13), Pr x (KC.mk b0 b1 b2 b3 b4 b5 b6 b7 b8 b9 b10 b11 b12)] :=
  (Po hk hu).trans (Pp [bz b0 (Ze x 0), bz b1 (Ze x 1), bz b2 (Ze x 2), bz b3 (Ze x 3), bz b4 (Ze x 4), bz b5 (Ze x 5), bz b6 (Ze x 6), bz b6 (Ze x 7), bz b7 (Ze x 8), bz b8 (Ze x 9), bz b9 (Ze x 10), bz b10 (Ze x 11), bz b11 (Ze x 12), bz b12 (Ze x 13)] _).symm
theorem ET (x : Qu) : VG x (Jf x) := by
  unfold VG Wp
  simp only [Uq, exists_eq_left, jn, Jl, Jw]
  by_cases hk : Kd x.ff
  case neg =>
    have hw : wI x.ff 1 17 = false := by simpa [wI, Kd] using hk
    rw [hw]
    exact ⟨fun _ => LZ hk, fun h => by simp at h⟩
  have hw : wI x.ff 1 17 = true := by simpa [wI, Kd] using hk
  refine ⟨fun h => by simp [hw] at h, fun _ => ?_⟩
  refine ⟨Av x.ff, IF _, CG x.fb1, fun _ => UT _, CG x.fa5, fun _ => UT _, ?_⟩
  rcases hU : Av x.ff with ⟨b0, b1, b2, b3, b4, b5, b6, b7, b8, b9, b10, b11, b12⟩
  have hv := R9 hk hU
  generalize Jf x = V at hv ⊢
  simp only
  have l1 : Jy x b2 false (bz b2 (Ze x 2)) := by
    have := CH x b2 false
    have e : ES x b2 false = bz b2 (Ze x 2) := by unfold ES bz; show _ = if b2 = true then HY x.fy else 0; grind
    rwa [e] at this
  have l2 : Jy x false b4 (bz b4 (Ze x 4)) := by
    have := CH x false b4
    have e : ES x false b4 = bz b4 (Ze x 4) := by unfold ES bz; show _ = if b4 = true then I0 x.fj else 0; grind
    rwa [e] at this
  have p3 := Xc x.fa
  have p12 := AX x.fi
  change ZH x.fa (Ze x 3) at p3
  change Kp x.fi (Ze x 12) at p12
  refine ⟨fun h => ?_, fun h => ?_⟩
  · by_cases h0 : bz b0 (Ze x 0) = 0
    · exact UU (Yl hv h0) (Rp (c := 6) (by decide) h h0) (by decide)
    · exact UU hv (Pq (c := 6) h0) (by decide)
  have hh := Bool.or_eq_false_iff.1 h
  have z0 : bz b0 (Ze x 0) = 0 := Rq (c := 6) hh.1
  have z1 : bz b1 (Ze x 1) = 0 := Rq (c := 6) hh.2
  replace hv := Yl (Yl hv z0) z1
  clear h hh z0 z1
  refine ⟨_, l1, fun h => M0 hv (by simpa using h), fun h => ?_⟩
  replace hv := Yl hv (by simpa using h)
  clear h l1
  suffices rest : V = UA [bz b4 (Ze x 4), bz b5 (Ze x 5), bz b6 (Ze x 6), bz b6 (Ze x 7), bz b7 (Ze x 8), bz b8 (Ze x 9), bz b9 (Ze x 10), bz b10 (Ze x 11), bz b11 (Ze x 12), bz b12 (Ze x 13), Pr x (KC.mk b0 b1 b2 b3 b4 b5 b6 b7 b8 b9 b10 b11 b12)] → _ by
    refine ⟨fun hb => ⟨_, p3, fun h => ?_, fun h => rest (Yl hv ?_)⟩, fun hb => rest (Yl hv (R8 hb))⟩
    · rw [M0 hv (by rw [Ho hb]; simpa using h), Ho hb]
    · rw [Ho hb]; simpa using h
  clear hv p3
  intro hv
  refine ⟨_, l2, fun h => M0 hv (by simpa using h), fun h => ?_⟩
  replace hv := Yl hv (by simpa using h)
  clear h l2
  have e5 : Ze x 5 = if (x.fa2.length : Int) > 64 then 11 else 0 := rfl
  refine ⟨fun h => ?_, fun h => ?_⟩
  · have h := Bool.and_eq_true_iff.1 h
    exact UU hv (by rw [Ho h.1, e5, if_pos (by simpa using h.2)]) (by decide)
  have z5 : bz b5 (Ze x 5) = 0 := by
    cases b5
    · exact R8 rfl
    · rw [Ho rfl, e5, if_neg (by simpa using h)]
  replace hv := Yl hv z5
  clear h z5 e5
  have er : ∀ n lo hi, Y7 n lo hi = if wI n lo hi = true then 0 else 5 := by intro n lo hi; unfold Y7 wI; simp
  have e6 : Ze x 6 = if wI x.f6 1 1048576 = true then 0 else 5 := er _ _ _
  have e7 : Ze x 7 = if wI x.f9 1 1048576 = true then 0 else 5 := er _ _ _
  have e8 : Ze x 8 = if wI x.fa0 0 3 = true then 0 else 5 := er _ _ _
  have e9 : Ze x 9 = if wI x.fa4 0 15 = true then 0 else 5 := er _ _ _
  have e10 : Ze x 10 = if wI x.fa1 0 3 = true then 0 else 5 := er _ _ _
  have e11 : Ze x 11 = if wI x.fo 0 32 = true then 0 else 5 := er _ _ _
  clear er
  rw [e6, e7, e8, e9, e10, e11] at hv
  clear e6 e7 e8 e9 e10 e11
  generalize wI x.f6 1 1048576 = w6 at *
  generalize wI x.f9 1 1048576 = w7 at *
  generalize wI x.fa0 0 3 = w8 at *
  generalize wI x.fa4 0 15 = w9 at *
  generalize wI x.fa1 0 3 = w10 at *
  generalize wI x.fo 0 32 = w11 at *
  refine ⟨w6, fun _ => rfl, w7, fun _ => rfl, fun h => ?_, fun h => ?_⟩
  · have h' : (b6 && !w6 || b6 && !w7) = true := by rw [← Bool.and_or_distrib_left]; exact h
    by_cases h0 : bz b6 (if w6 = true then 0 else 5) = 0
    · exact UU (Yl hv h0) (Rp (by decide) h' h0) (by decide)
    · exact UU hv (Pq h0) (by decide)
  have hh : (b6 && !w6) = false ∧ (b6 && !w7) = false := by rw [← Bool.or_eq_false_iff, ← Bool.and_or_distrib_left]; exact h
  replace hv := Yl (Yl hv (Rq hh.1)) (Rq hh.2)
  clear h hh
  refine ⟨w8, fun _ => rfl, w9, fun _ => rfl, w10, fun _ => rfl, w11, fun _ => rfl, fun h => ?_, fun h => ?_⟩
  · by_cases h0 : bz b7 (if w8 = true then 0 else 5) = 0
    · replace hv := Yl hv h0
      by_cases h1 : bz b8 (if w9 = true then 0 else 5) = 0
      · replace hv := Yl hv h1
        by_cases h2 : bz b9 (if w10 = true then 0 else 5) = 0
        · exact UU (Yl hv h2) (d_or4 (by decide) h h0 h1 h2) (by decide)
        · exact UU hv (Pq h2) (by decide)
      · exact UU hv (Pq h1) (by decide)
    · exact UU hv (Pq h0) (by decide)
  have k1 := Bool.or_eq_false_iff.1 h
  have k2 := Bool.or_eq_false_iff.1 k1.1
  have k3 := Bool.or_eq_false_iff.1 k2.1
  replace hv := Yl (Yl (Yl (Yl hv (Rq k3.1)) (Rq k3.2)) (Rq k2.2)) (Rq k1.2)
  clear h k1 k2 k3
  suffices rest : V = UA [bz b12 (Ze x 13), Pr x (KC.mk b0 b1 b2 b3 b4 b5 b6 b7 b8 b9 b10 b11 b12)] → _ by
    refine ⟨fun hb => ⟨_, p12, fun h => ?_, fun h => rest (Yl hv ?_)⟩, fun hb => rest (Yl hv (R8 hb))⟩
    · rw [M0 hv (by rw [Ho hb]; simpa using h), Ho hb]
    · rw [Ho hb]; simpa using h
  clear hv p12
  intro hv
  have e13 : Ze x 13 = if (x.fa6.length : Int) > 65536 then 11 else 0 := rfl
  refine ⟨fun h => ?_, fun h => ?_⟩
  · have h := Bool.and_eq_true_iff.1 h
    exact UU hv (by rw [Ho h.1, e13, if_pos (by simpa using h.2)]) (by decide)
  have z13 : bz b12 (Ze x 13) = 0 := by
    cases b12
    · exact R8 rfl
    · rw [Ho rfl, e13, if_neg (by simpa using h)]
  replace hv := Yl hv z13
  clear h z13 e13
  have hv2 : V = Pr x (KC.mk b0 b1 b2 b3 b4 b5 b6 b7 b8 b9 b10 b11 b12) := by
    rw [hv]; unfold UA; split <;> simp_all [UA]
  subst hv2
  unfold Pr
  simp only
  have n0 : (ByteArray.empty).toList = [] := Yu
  have lg : ∀ n : Nat, decide ((n : Int) > 0) = !decide (n = 0) := by
    intro n; by_cases h : n = 0
    · subst h; rfl
    · have : (n : Int) > 0 := by omega
      simp [h]; omega
  have ne : ∀ n : Int, (n != 0) = !decide (n = 0) := fun n => rfl
  have ee : ∀ n : Int, (n == 0) = decide (n = 0) := fun n => rfl
  have el : ∀ s : ByteArray, (s.toList == []) = decide (s.toList = []) := by intro s; by_cases h : s.toList = [] <;> simp [h]
  simp only [Yu, n0, lg, ne, ee, el, Bool.and_true, ← Bool.decide_and]
  have pp : decide (x.f6 = 0) = decide (x.f6 = 0) := rfl
  generalize decide (x.f6 = 0) = a6
  generalize decide (x.f9 = 0) = a7
  generalize decide (x.fb1.toList = []) = a0
  generalize decide (x.fa5.toList = []) = a1
  generalize decide (x.fy.length = 0) = a2
  generalize decide (x.fj.length = 0) = a4
  generalize decide (x.fa2.length = 0) = a5
  generalize decide (x.fa0 = 0) = a8
  generalize decide (x.fa4 = 0) = a9
  generalize decide (x.fa1 = 0) = a10
  generalize decide (x.fo = 0) = a11
  generalize decide (x.fa6.length = 0) = a13
  generalize decide (x.fa.ff = 0 ∧ x.fa.fh = 0 ∧ x.fa.fp = 0 ∧ x.fa.fv = 0) = a3
  generalize decide (x.fi.ff = 0 ∧ x.fi.f3.toList = [] ∧ x.fi.fo = 0 ∧ x.fi.fa9 = 0 ∧ x.fi.fa7 = 0) = a12
  have key : ((((((((((((!b0 && !a0 || !b1 && !a1) || !b2 && !a2) || !b3 && !a3) || !b4 && !a4) || !b5 && !a5) || !b6 && (!a6 || !a7)) || !b7 && !a8) || !b8 && !a9) || !b9 && !a10) || !b10 && !a11) || !b11 && !a12) || !b12 && !a13) = !((b0 || a0) && (b1 || a1) && (b2 || a2) && (b3 || a3) && (b4 || a4) && (b5 || a5) && (b6 || a6) && (b6 || a7) && (b7 || a8) && (b8 || a9) && (b9 || a10) && (b10 || a11) && (b11 || a12) && (b12 || a13)) := by
    cases b6 <;> simp [Bool.not_and, Bool.not_or, Bool.or_assoc]
  refine ⟨fun h => if_neg fun h2 => ?_, fun h => if_pos ?_⟩
  · rw [key, h2] at h; cases h
  · rw [key, Bool.not_eq_false'] at h; exact h
theorem Ra {L : List Int} (h : UA L = 0) : ∀ e ∈ L, e = 0 := by
  induction L with
  | nil => simp
  | cons a r ih =>
    unfold UA at h
    by_cases ha : a = 0
    · subst ha; simp at h; intro e he; rcases List.mem_cons.1 he with rfl | he
      · rfl
      · exact ih h e he
    · rw [if_pos ha] at h; exact absurd h ha
theorem Rb {x : Qu} (h : Jf x = 0) : Kd x.ff ∧ ∀ f, f < 14 → if ZY x.ff f = true then Ze x f = 0 else Ap (W9 x) f = true := by
  have hk : Kd x.ff := by
    by_cases hk : Kd x.ff
    · exact hk
    · rw [LZ hk] at h; cases h
  refine ⟨hk, fun f hf => ?_⟩
  unfold Jf EO at h
  rw [if_neg (by simpa [W9] using hk)] at h
  by_cases hz : UA (Ut (W9 x).kind (Ze x)) = 0
  · rw [hz] at h; simp only [ne_eq, not_true, if_false] at h
    have ha : (List.range 14).all (fun f => ZY (W9 x).kind f || Ap (W9 x) f) = true := by
      by_cases ha : (List.range 14).all (fun f => ZY (W9 x).kind f || Ap (W9 x) f) = true
      · exact ha
      · rw [if_neg ha] at h; cases h
    have h1 := List.all_eq_true.1 ha f (by simpa using hf)
    have h2 := Ra hz (if ZY x.ff f = true then Ze x f else 0) (by
      unfold Ut; exact List.mem_map.2 ⟨f, by simpa using hf, rfl⟩)
    change (ZY x.ff f || Ap (W9 x) f) = true at h1
    cases hm : ZY x.ff f
    · rw [hm] at h1; simpa using h1
    · rw [hm] at h2; simpa using h2
  · rw [if_pos hz] at h; exact absurd h hz
structure Fit (x : Qu) : Prop where
  kind : 1 ≤ x.ff ∧ x.ff ≤ 17
  name : x.fb1.size ≤ 16
  other : x.fa5.size ≤ 16
  names : x.fy.length ≤ 16
  each : ∀ s ∈ x.fy, s.size ≤ 16
  pk : 0 ≤ x.fa.ff ∧ x.fa.ff ≤ 6
  ps : 0 ≤ x.fa.fh ∧ x.fa.fh ≤ 64
  pd : 0 ≤ x.fa.fp ∧ x.fa.fp ≤ 8
  items : x.fj.length ≤ 64
  item : ∀ t ∈ x.fj, t.f3.size ≤ 32 ∧ 1 ≤ t.f4 ∧ t.f4 ≤ 4294967295
  coins : x.fa2.length ≤ 64
  ex : 0 ≤ x.f6 ∧ x.f6 ≤ 1048576
  so : 0 ≤ x.f9 ∧ x.f9 ≤ 1048576
  ha : 0 ≤ x.fa0 ∧ x.fa0 ≤ 3
  ix : 0 ≤ x.fa4 ∧ x.fa4 ≤ 15
  cu : 0 ≤ x.fa1 ∧ x.fa1 ≤ 3
  co : 0 ≤ x.fo ∧ x.fo ≤ 32
  qk : 0 ≤ x.fi.ff ∧ x.fi.ff ≤ 7
  qs : x.fi.f3.size ≤ 32
  qc : 0 ≤ x.fi.fo ∧ x.fi.fo ≤ 32
  qn : 0 ≤ x.fi.fa9 ∧ x.fi.fa9 ≤ 1000000
  qd : 0 ≤ x.fi.fa7 ∧ x.fi.fa7 ≤ 1000000
  data : x.fa6.length ≤ 65536
theorem GP {s : ByteArray} (h : (s.toList == []) = true) : s.size = 0 := by
  have e : s.toList = [] := by simpa using h
  rw [ByteArray.toList_eq] at e
  have := congrArg List.length e
  rw [Array.length_toList] at this; exact this
theorem Ps {s : ByteArray} (h : BL s = 0) : s.size ≤ 16 := by
  unfold BL at h
  have : CG s = true := by
    cases hb : CG s with
    | true => rfl
    | false => rw [hb] at h; cases h
  unfold CG at this
  simp at this; omega
theorem M1 {α : Type} {f : α → Int} {l : List α} (h : AY f l = 0) : ∀ x ∈ l, f x = 0 := by
  induction l with
  | nil => simp
  | cons a r ih =>
    unfold AY at h
    by_cases ha : f a = 0
    · rw [if_neg (by simp [ha])] at h
      intro x hx
      rcases List.mem_cons.1 hx with rfl | hx
      · exact ha
      · exact ih h x hx
    · rw [if_pos ha] at h; exact absurd h ha
theorem C9 {n a b : Int} (h : Y7 n a b = 0) : a ≤ n ∧ n ≤ b := by
  unfold Y7 at h; split at h
  · assumption
  · cases h
theorem NF {n : Nat} {m : Int} (h : AZ n m = 0) : (n : Int) ≤ m := by
  unfold AZ at h; split at h
  · cases h
  · omega
theorem two {b : Bool} {A B : Prop} (h : if b = true then A else B) : A ∨ B := by cases b <;> simp_all
theorem Rc {k s d z : Int} (h : WJ k s d z = 0) : (0 ≤ k ∧ k ≤ 6) ∧ (0 ≤ s ∧ s ≤ 64) ∧ (0 ≤ d ∧ d ≤ 8) := by
  unfold WJ at h; repeat' split at h
  all_goals omega
theorem Re {k : Int} {s : ByteArray} {c n d : Int} (h : US k s c n d = 0) (hs : s.toList = [] → s.size = 0) : (0 ≤ k ∧ k ≤ 7) ∧ s.size ≤ 32 ∧ (0 ≤ c ∧ c ≤ 32) ∧ (0 ≤ n ∧ n ≤ 1000000) ∧ (0 ≤ d ∧ d ≤ 1000000) := by
  unfold US at h
  by_cases e : s.toList = []
  · have := hs e
    simp only [e, ne_eq, not_true, and_false, false_or] at h
    repeat' split at h
    all_goals omega
  · simp only [e, ne_eq, not_false_eq_true, and_true] at h
    repeat' split at h
    all_goals omega
theorem IN {x : Qu} (h : Jf x = 0) : Fit x := by
  obtain ⟨hk, hf⟩ := Rb h
  have g : ∀ f, f < 14 → Ze x f = 0 ∨ Ap (W9 x) f = true := fun f hlt => two (hf f hlt)
  have g0 := g 0 (by decide); have g1 := g 1 (by decide); have g2 := g 2 (by decide); have g3 := g 3 (by decide); have g4 := g 4 (by decide); have g5 := g 5 (by decide); have g6 := g 6 (by decide)
  have g7 := g 7 (by decide); have g8 := g 8 (by decide); have g9 := g 9 (by decide); have g10 := g 10 (by decide); have g11 := g 11 (by decide); have g12 := g 12 (by decide); have g13 := g 13 (by decide)
  change BL x.fb1 = 0 ∨ (x.fb1.toList == []) = true at g0
  change BL x.fa5 = 0 ∨ (x.fa5.toList == []) = true at g1
  change HY x.fy = 0 ∨ decide (x.fy.length = 0) = true at g2
  change WJ x.fa.ff x.fa.fh x.fa.fp x.fa.fv = 0 ∨ decide (x.fa.ff = 0 ∧ x.fa.fh = 0 ∧ x.fa.fp = 0 ∧ x.fa.fv = 0) = true at g3
  change I0 x.fj = 0 ∨ decide ((x.fj.map (fun x => (x.f3, x.f4))).length = 0) = true at g4
  change AZ x.fa2.length 64 = 0 ∨ decide (x.fa2.length = 0) = true at g5
  change Y7 x.f6 1 1048576 = 0 ∨ decide (x.f6 = 0) = true at g6
  change Y7 x.f9 1 1048576 = 0 ∨ decide (x.f9 = 0) = true at g7
  change Y7 x.fa0 0 3 = 0 ∨ decide (x.fa0 = 0) = true at g8
  change Y7 x.fa4 0 15 = 0 ∨ decide (x.fa4 = 0) = true at g9
  change Y7 x.fa1 0 3 = 0 ∨ decide (x.fa1 = 0) = true at g10
  change Y7 x.fo 0 32 = 0 ∨ decide (x.fo = 0) = true at g11
  change US x.fi.ff x.fi.f3 x.fi.fo x.fi.fa9 x.fi.fa7 = 0 ∨ decide (x.fi.ff = 0 ∧ x.fi.f3.toList = [] ∧ x.fi.fo = 0 ∧ x.fi.fa9 = 0 ∧ x.fi.fa7 = 0) = true at g12
  change AZ x.fa6.length 65536 = 0 ∨ decide (x.fa6.length = 0) = true at g13
  simp only [decide_eq_true_eq] at g2 g3 g4 g5 g6 g7 g8 g9 g10 g11 g12 g13
  have n2 : x.fy.length ≤ 16 ∧ ∀ s ∈ x.fy, s.size ≤ 16 := by
    rcases g2 with g | g
    · unfold HY at g; split at g
      · cases g
      · exact ⟨by omega, fun s hs => Ps (M1 g s hs)⟩
    · have : x.fy = [] := List.eq_nil_of_length_eq_zero g
      simp [this]
  have n4 : x.fj.length ≤ 64 ∧ ∀ t ∈ x.fj, t.f3.size ≤ 32 ∧ 1 ≤ t.f4 ∧ t.f4 ≤ 4294967295 := by
    rcases g4 with g | g
    · unfold I0 at g; split at g
      · cases g
      · refine ⟨by omega, fun t ht => ?_⟩
        have := M1 g t ht
        unfold FN at this; grind
    · rw [List.length_map] at g
      have : x.fj = [] := List.eq_nil_of_length_eq_zero g
      simp [this]
  have n3 : (0 ≤ x.fa.ff ∧ x.fa.ff ≤ 6) ∧ (0 ≤ x.fa.fh ∧ x.fa.fh ≤ 64) ∧ (0 ≤ x.fa.fp ∧ x.fa.fp ≤ 8) := by
    rcases g3 with g | g
    · exact Rc g
    · omega
  have n12 : (0 ≤ x.fi.ff ∧ x.fi.ff ≤ 7) ∧ x.fi.f3.size ≤ 32 ∧ (0 ≤ x.fi.fo ∧ x.fi.fo ≤ 32) ∧ (0 ≤ x.fi.fa9 ∧ x.fi.fa9 ≤ 1000000) ∧ (0 ≤ x.fi.fa7 ∧ x.fi.fa7 ≤ 1000000) := by
    have hs : x.fi.f3.toList = [] → x.fi.f3.size = 0 := fun h => GP (by simp [h])
    rcases g12 with g | g
    · exact Re g hs
    · have := hs g.2.1; omega
  refine ⟨hk, ?_, ?_, n2.1, n2.2, n3.1, n3.2.1, n3.2.2, n4.1, n4.2, ?_, ?_, ?_, ?_, ?_, ?_, ?_, n12.1, n12.2.1, n12.2.2.1, n12.2.2.2.1, n12.2.2.2.2, ?_⟩
  · rcases g0 with g | g
    · exact Ps g
    · have := GP g; omega
  · rcases g1 with g | g
    · exact Ps g
    · have := GP g; omega
  · rcases g5 with g | g
    · have := NF g; omega
    · omega
  · rcases g6 with g | g
    · have := C9 g; omega
    · omega
  · rcases g7 with g | g
    · have := C9 g; omega
    · omega
  · rcases g8 with g | g
    · exact C9 g
    · omega
  · rcases g9 with g | g
    · exact C9 g
    · omega
  · rcases g10 with g | g
    · exact C9 g
    · omega
  · rcases g11 with g | g
    · exact C9 g
    · omega
  · rcases g13 with g | g
    · have := NF g; omega
    · omega
def M2 (t : Qh) : List Int := UB t.f3 ++ Jg t.f4
def FD (x : Qu) : List Int := ((((([] ++ [x.ff].flatMap Jg) ++ [x.fb1, x.fa5].flatMap UB) ++ [(x.fy.length : Int)].flatMap Jg) ++ x.fy.flatMap UB) ++ [x.fa.ff, x.fa.fh, x.fa.fp].flatMap Jg) ++ Wb 8 x.fa.fv
def FE (x : Qu) : List Int := (FD x ++ [(x.fj.length : Int)].flatMap Jg) ++ x.fj.flatMap M2
def Jq (x : Qu) : List Int := ((((FE x ++ [strOfNums x.fa2].flatMap UB) ++ [x.f6, x.f9, x.fa0, x.fa4, x.fa1, x.fo, x.fi.ff].flatMap Jg) ++ [x.fi.f3].flatMap UB) ++ [x.fi.fo, x.fi.fa9, x.fi.fa7].flatMap Jg) ++ [strOfNums x.fa6].flatMap UB
theorem Eh {α : Type} {f : α → List Int} {m : Nat} {l : List α} (h : ∀ t ∈ l, (f t).length ≤ m) : (l.flatMap f).length ≤ m * l.length := by
  induction l with
  | nil => simp
  | cons a r ih =>
    have h1 := h a (by simp)
    have h2 := ih fun t ht => h t (by simp [ht])
    simp only [List.flatMap_cons, List.length_append, List.length_cons, Nat.mul_add]
    omega
theorem GQ (s : ByteArray) (m : Nat) (h : s.size ≤ m) : (UB s).length ≤ m + 9 := by
  unfold UB; split
  · simp
  · have hL := JA (s.size : Int)
    have hs := Vr s
    simp; omega
theorem IO {x : Qu} (h : Fit x) : (FD x).length ≤ 1000 := by
  have k1 := Zi x.ff; have k2 := GQ x.fb1 16 h.name; have k3 := GQ x.fa5 16 h.other
  have k4 := Zi (x.fy.length : Int); have k5 := Eh (f := UB) (m := 25) (l := x.fy) (fun t ht => GQ t 16 (h.each t ht))
  have k6 := Zi x.fa.ff; have k7 := Zi x.fa.fh; have k8 := Zi x.fa.fp
  have k9 := h.names
  simp only [FD, List.length_append, List.flatMap_cons, List.flatMap_nil, Zu, List.length_nil]; omega
theorem IP {x : Qu} (h : Fit x) (t : Qh) (ht : t ∈ x.fj) : (M2 t).length ≤ 50 := by
  have := GQ t.f3 32 (h.item t ht).1
  have k := Zi t.f4
  unfold M2; simp only [List.length_append]; omega
theorem NG {x : Qu} (h : Fit x) : (FE x).length ≤ 5000 := by
  have k1 := IO h
  have k2 := Zi (x.fj.length : Int)
  have k3 := Eh (f := M2) (m := 50) (l := x.fj) (fun t ht => IP h t ht)
  have k4 := h.items
  simp only [FE, List.length_append, List.flatMap_cons, List.flatMap_nil, List.length_nil]; omega
theorem FR {x : Qu} (h : Fit x) : (Jq x).length ≤ 300000 := by
  have k1 := NG h
  have a1 := Jp (strOfNums x.fa2); have a2 := Jp x.fi.f3; have a3 := Jp (strOfNums x.fa6)
  have b1 := Zi x.f6; have b2 := Zi x.f9; have b3 := Zi x.fa0; have b4 := Zi x.fa4; have b5 := Zi x.fa1; have b6 := Zi x.fo
  have b7 := Zi x.fi.ff; have b8 := Zi x.fi.fo; have b9 := Zi x.fi.fa9; have c1 := Zi x.fi.fa7
  simp only [Jq, List.length_append, List.flatMap_cons, List.flatMap_nil, List.length_nil]; omega
theorem GR (n : Int) : ∀ c ∈ Jg n, 0 ≤ c ∧ c ≤ 255 := by
  intro c hc
  unfold Jg at hc; split at hc
  · simp at hc
  · exact bounds_u8 (IJ n (by omega) c hc)
theorem I2 (s : ByteArray) : ∀ c ∈ UB s, 0 ≤ c ∧ c ≤ 255 := by
  intro c hc
  unfold UB at hc; split at hc
  · simp at hc
  · rcases List.mem_append.1 hc with h | h
    · exact bounds_u8 (IJ _ (by omega) c h)
    · exact bounds_u8 (Oj s c h)
theorem Wr (x : Qu) : ∀ c ∈ Jq x, 0 ≤ c ∧ c ≤ 255 := by
  have fm : ∀ {α : Type} (f : α → List Int) (l : List α), (∀ t, ∀ c ∈ f t, 0 ≤ c ∧ c ≤ 255) → ∀ c ∈ l.flatMap f, 0 ≤ c ∧ c ≤ 255 := by
    intro α f l h c hc
    obtain ⟨t, _, ht⟩ := List.mem_flatMap.1 hc
    exact h t c ht
  have ap : ∀ {a b : List Int}, (∀ c ∈ a, 0 ≤ c ∧ c ≤ 255) → (∀ c ∈ b, 0 ≤ c ∧ c ≤ 255) → ∀ c ∈ a ++ b, 0 ≤ c ∧ c ≤ 255 := by
    intro a b ha hb c hc
    rcases List.mem_append.1 hc with h | h
    · exact ha c h
    · exact hb c h
  have e := fun l => fm Jg l GR
  have t := fun l => fm UB l I2
  have it : ∀ l, ∀ c ∈ List.flatMap M2 l, 0 ≤ c ∧ c ≤ 255 := fun l => fm M2 l fun t => ap (I2 _) (GR _)
  have w : ∀ c ∈ Wb 8 x.fa.fv, 0 ≤ c ∧ c ≤ 255 := fun c hc => bounds_u8 (II 8 _ c hc)
  unfold Jq FE FD
  exact ap (ap (ap (ap (ap (ap (ap (ap (ap (ap (ap (ap (ap (by simp) (e _)) (t _)) (e _)) (t _)) (e _)) w) (e _)) (it _)) (t _)) (e _)) (t _)) (e _)) (t _)
def B0 (x : Qu) : List Int × Int := if Jf x ≠ 0 then ([], Jf x) else (ZZ 79 (Jq x), 0)
theorem Yv (x : Qu) : Jc x (B0 x) := by
  unfold Jc Yt
  simp only [jn]
  have enc_no : Jf x ≠ 0 → B0 x = ([], Jf x) := fun h => by unfold B0; rw [if_pos h]
  refine ⟨Jf x, WL x, fun h => enc_no (by simpa using h), fun h => ?_⟩
  have h0 : Jf x = 0 := by simpa using h
  have F := IN h0
  have lA := IO F
  have lB := NG F
  have lE := FR F
  have nl : x.fy.length ≤ 100000 := by have := F.names; omega
  have hA : (FD x).length ≤ 1000 := lA
  unfold FD at hA
  simp only [List.length_append, Zu] at hA
  refine ⟨_, Je [] _ (by simp) (by simp), _, VL _ _ (by simp only [List.length_append]; omega) (by simp), _, Je _ _ (by simp only [List.length_append]; omega) (by simp), _, VL _ _ (by simp only [List.length_append]; omega) nl, _, Je _ _ (by simp only [List.length_append]; omega) (by simp), _, Eb _, by simp only [List.length_append, Zu]; omega, _, Je (FD x) _ (by omega) (by simp), ?_⟩
  have hB : (FE x).length ≤ 5000 := lB
  unfold FE at hB
  rw [List.length_append] at hB
  refine ZV (I := fun k s => ∃ j : Nat, s.1 = (j : Int) ∧ j ≤ x.fj.length ∧ k = x.fj.length - j ∧ s.2 = (FD x ++ [(x.fj.length : Int)].flatMap Jg) ++ (x.fj.take j).flatMap M2) ?_ (k := x.fj.length) ⟨0, rfl, by omega, by omega, by simp⟩
  rintro k ⟨i, c⟩ ⟨j, hj, hj1, hk, hc⟩ X hX
  simp only at hj hc ⊢
  subst hj
  refine ⟨fun h => ?_, fun h => ?_⟩
  · have hj2 : j < x.fj.length := by simp at h; omega
    obtain ⟨t, ht, hg⟩ := Kg (l := x.fj) (n := (j : Int)) (by omega) (by omega)
    have hcl : c.length ≤ 10000 := by
      have k3 := Eh (f := M2) (m := 50) (l := x.fj.take j) (fun t ht => IP F t (List.mem_of_mem_take ht))
      have k4 := F.items
      rw [List.length_take] at k3
      rw [hc, List.length_append]; omega
    have hit := F.items
    have hti := IP F t (List.mem_of_getElem? hg)
    have htx := Jp t.f3
    refine ⟨t, ht, _, VL c _ (by omega) (by simp), _, Je _ _ (by simp only [List.length_append, List.flatMap_cons, List.flatMap_nil, List.length_nil]; omega) (by simp), ?_⟩
    rw [Zm (by omega)]
    refine hX (x.fj.length - (j + 1)) _ (by omega) ⟨j + 1, by simp, by omega, rfl, ?_⟩
    have e : x.fj.take (j + 1) = x.fj.take j ++ [t] := by rw [List.take_add_one]; simp at hg; simp [hg]
    rw [e, hc]; simp [M2]
  · have hj2 : j = x.fj.length := by simp at h; omega
    subst hj2
    rw [List.take_length] at hc
    change c = FE x at hc
    subst hc
    have hE : (Jq x).length ≤ 300000 := lE
    unfold Jq at hE
    simp only [List.length_append] at hE
    refine ⟨_, VL (FE x) _ (by omega) (by simp), _, Je _ _ (by simp only [List.length_append]; omega) (by simp), _, VL _ _ (by simp only [List.length_append]; omega) (by simp), _, Je _ _ (by simp only [List.length_append]; omega) (by simp), _, VL _ _ (by simp only [List.length_append]; omega) (by simp), _, IM 79 (Jq x) (by decide) (Wr x), ?_⟩
    unfold B0 BO
    rw [if_neg (by simp [h0]), if_neg (by omega)]
def L0 {α : Type} (st : Qw) (r : α × Int × Int) (z : α) : α × Qw :=
  if st.fbad = true ∨ r.2.2 ≠ 0 then (z, ⟨st.fb, true⟩) else (r.1, ⟨st.fb.drop r.2.1.toNat, false⟩)
theorem MS (st : Qw) (k e : Int) (h : e = 0 → 0 ≤ k ∧ k ≤ st.fb.length) :
    ZS st k e (if st.fbad = true ∨ e ≠ 0 then (false, ⟨st.fb, true⟩) else (true, ⟨st.fb.drop k.toNat, false⟩)) := by
  unfold ZS VH
  rcases st with ⟨b, bad⟩
  cases bad
  · by_cases he : e = 0
    · subst he; simpa using h rfl
    · simp [he]
  · simp
theorem NH {l : List Int} {n k : Int} (h : E9 l = (n, k, 0)) : 1 ≤ k ∧ k ≤ l.length := by
  unfold E9 at h
  by_cases h8 : l.length < 8
  · rw [if_pos h8] at h; simp at h
  · rw [if_neg h8] at h; simp only [Prod.mk.injEq] at h; omega
theorem NI {l : List Int} (hw : ∀ n ∈ l, (Lit.int .u8 n).wf = true) {s : ByteArray} {k : Int} (h : Ci l = (s, k, 0)) : 1 ≤ k ∧ k ≤ l.length ∧ s.size ≤ 65536 := by
  obtain ⟨n, j, e, hd⟩ : ∃ n j e, Y5 l = (n, j, e) := ⟨_, _, _, rfl⟩
  unfold Ci Ea at h
  rw [hd] at h
  simp only at h
  by_cases h0 : e ≠ 0
  · rw [if_pos h0] at h; simp only [Prod.mk.injEq] at h; omega
  have h0' : e = 0 := by simpa using h0
  subst h0'
  have hk := C5 hw hd
  rw [if_neg h0] at h
  by_cases h1 : n > 65536
  · rw [if_pos h1] at h; simp at h
  rw [if_neg h1] at h
  by_cases h2 : (l.length : Int) - j < n
  · rw [if_pos h2] at h; simp at h
  rw [if_neg h2] at h
  simp only [Prod.mk.injEq] at h
  obtain ⟨hs, hk2, _⟩ := h
  refine ⟨by omega, by omega, ?_⟩
  rw [← hs, KJ, List.length_take]; omega
theorem Oe {l : List Int} : (Ci l).1.size ≤ 65536 := by
  unfold Ci Ea
  split
  · exact Nat.zero_le _
  · split
    · exact Nat.zero_le _
    · split
      · exact Nat.zero_le _
      · rw [KJ, List.length_take]; omega
theorem Rr (st : Qw) (B : Wa st.fb) : QD st (L0 st (Y5 st.fb) 0) := by
  unfold QD JX
  obtain ⟨n, k, e, hd⟩ : ∃ n k e, Y5 st.fb = (n, k, e) := ⟨_, _, _, rfl⟩
  refine ⟨Y5 st.fb, W8 _ B, _, MS st _ _ ?_, ?_⟩
  · rw [hd]; intro he; simp only at he; subst he; have := C5 B.2 hd; simp only; omega
  · rw [hd]; unfold L0; simp only
    by_cases hc : st.fbad = true ∨ e ≠ 0
    · rw [if_pos hc, if_pos hc]; simp
    · rw [if_neg hc, if_neg hc]; simp
theorem Rs (st : Qw) (B : Wa st.fb) : ZD st (L0 st (E9 st.fb) 0) := by
  unfold ZD VK
  obtain ⟨n, k, e, hd⟩ : ∃ n k e, E9 st.fb = (n, k, e) := ⟨_, _, _, rfl⟩
  refine ⟨E9 st.fb, Ed _ B, _, MS st _ _ ?_, ?_⟩
  · rw [hd]; intro he; simp only at he; subst he; have := NH hd; simp only; omega
  · rw [hd]; unfold L0; simp only
    by_cases hc : st.fbad = true ∨ e ≠ 0
    · rw [if_pos hc, if_pos hc]; simp
    · rw [if_neg hc, if_neg hc]; simp
theorem Rt (st : Qw) (B : Wa st.fb) : Z7 st (L0 st (Ci st.fb) ⟨#[]⟩) := by
  unfold Z7 VJ
  obtain ⟨n, k, e, hd⟩ : ∃ n k e, Ci st.fb = (n, k, e) := ⟨_, _, _, rfl⟩
  refine ⟨Ci st.fb, Ee _ B, _, MS st _ _ ?_, ?_⟩
  · rw [hd]; intro he; simp only at he; subst he; have := NI B.2 hd; simp only; omega
  · rw [hd]; unfold L0; simp only
    by_cases hc : st.fbad = true ∨ e ≠ 0
    · rw [if_pos hc, if_pos hc]; simp
    · rw [if_neg hc, if_neg hc]; simp
def Rd (s s' : Qw) : Prop := Wa s'.fb ∧ s'.fb.length ≤ s.fb.length ∧ (s'.fbad = false → s'.fb.length < s.fb.length)
theorem MU {α : Type} {st : Qw} (B : Wa st.fb) (r : α × Int × Int) (z : α) (h : r.2.2 = 0 → 1 ≤ r.2.1 ∧ r.2.1 ≤ st.fb.length) : Rd st (L0 st r z).2 := by
  unfold L0
  split
  · exact ⟨B, Nat.le_refl _, fun h => by simp at h⟩
  · rename_i hc
    have := h (by simpa using (not_or.1 hc).2)
    refine ⟨B.drop _, ?_, fun _ => ?_⟩ <;> simp <;> omega
theorem WM (st : Qw) (B : Wa st.fb) : ∃ v, QD st v ∧ Rd st v.2 := by
  refine ⟨_, Rr st B, MU B _ _ fun he => ?_⟩
  have := C5 B.2 (l := st.fb) (n := (Y5 st.fb).1) (k := (Y5 st.fb).2.1) (by rw [← he]); omega
theorem n_wrd (st : Qw) (B : Wa st.fb) : ∃ v, ZD st v ∧ Rd st v.2 := by
  refine ⟨_, Rs st B, MU B _ _ fun he => ?_⟩
  have := NH (l := st.fb) (n := (E9 st.fb).1) (k := (E9 st.fb).2.1) (by rw [← he]); omega
theorem GT (st : Qw) (B : Wa st.fb) : ∃ v, Z7 st v ∧ Rd st v.2 ∧ v.1.size ≤ 65536 := by
  refine ⟨_, Rt st B, MU B _ _ fun he => ?_, ?_⟩
  · have := NI B.2 (l := st.fb) (s := (Ci st.fb).1) (k := (Ci st.fb).2.1) (by rw [← he]); omega
  · unfold L0; split
    · exact Nat.zero_le _
    · exact Oe
theorem Pt (b : List Int) (B : Wa b) : Wa (FP b).2.1 ∧ (FP b).2.1.length ≤ 1048576 := by
  have N : Wa ([] : List Int) := ⟨Nat.zero_le _, fun c hc => by simp at hc⟩
  unfold FP
  split
  · exact ⟨N, Nat.zero_le _⟩
  · unfold Dl
    split
    · exact ⟨N, Nat.zero_le _⟩
    · split
      · exact ⟨N, Nat.zero_le _⟩
      · split
        · exact ⟨N, Nat.zero_le _⟩
        · split
          · exact ⟨N, Nat.zero_le _⟩
          · exact ⟨(B.drop _).take _, by rw [List.length_take]; omega⟩
def Sd : Qu := Qu.mk (0) (ByteArray.empty) (ByteArray.empty) ([] : (List ByteArray)) (Qr.mk (0) (0) (0) (0)) ([] : (List Qh)) ([] : (List Int)) (0) (0) (0) (0) (0) (0) (QE.mk (0) (ByteArray.empty) (0) (0) (0)) ([] : (List Int))
def Se (b : List Int) (r : Qu × Int) : Prop :=
  (r.2 ≠ 0 → r.1 = Sd ∧ (r.2 = (FP b).2.2.2 ∨ (FP b).2.2.2 = 0 ∧ r.2 = 2)) ∧
  (r.2 = 0 → (B0 r.1).2 = 0 ∧ ((strOfNums (B0 r.1).1).toList == (strOfNums b).toList) = true)
theorem Dm (b : List Int) (B : Wa b) : ∃ r, Kf b r ∧ Se b r := by
  refine Dj (Post := Se b) ?_
  unfold Kw
  simp only [jn]
  have hub := Pt b B
  refine ⟨FP b, BR b B, fun h => ?_, fun h => ?_⟩
  · have he : (FP b).2.2.2 ≠ 0 := by simpa using h
    exact ⟨fun _ => ⟨rfl, .inl rfl⟩, fun h0 => absurd h0 he⟩
  have he : (FP b).2.2.2 = 0 := by simpa using h
  have P0 : ∀ o : Qu, Se b (Sd, 2) := fun _ => ⟨fun _ => ⟨rfl, .inr ⟨he, rfl⟩⟩, fun h0 => by simp at h0⟩
  generalize (FP b).1 = tag
  generalize (FP b).2.2.1 = used
  generalize (FP b).2.1 = body at hub ⊢
  obtain ⟨v3, h3, d3, l3, _⟩ := WM ⟨body, false⟩ hub.1
  obtain ⟨v4, h4, ⟨d4, l4, _⟩, _⟩ := GT v3.2 d3
  obtain ⟨v5, h5, ⟨d5, l5, _⟩, _⟩ := GT v4.2 d4
  obtain ⟨v7, h7, d7, l7, _⟩ := WM v5.2 d5
  simp only at l3
  refine ⟨v3, h3, v4, h4, v5, h5, v7, h7, ?_⟩
  refine ZV (I := fun k s => Wa s.2.1 ∧ s.2.2.2.length + s.2.1.length ≤ 1048576 + s.2.2.1.toNat ∧ k = s.2.1.length + 1 - s.2.2.1.toNat) ?_ (k := v7.2.fb.length + 1 - v7.2.fbad.toNat) ⟨d7, by simp only [List.length_nil]; omega, rfl⟩
  rintro k ⟨n, q, bad, nm⟩ ⟨hq, hs, hk⟩ X hX
  simp only at hq hs hk ⊢
  refine ⟨fun h => ?_, fun h => ?_⟩
  · have hb : bad = false := by cases bad <;> simp_all
    subst hb
    obtain ⟨v11, h11, ⟨d11, l11, p11⟩, _⟩ := GT ⟨q, false⟩ hq
    simp only [Bool.toNat_false] at hs hk l11 p11
    refine ⟨v11, h11, by simp only [List.length_cons, List.length_nil]; omega, ?_⟩
    refine hX (v11.2.fb.length + 1 - v11.2.fbad.toNat) _ ?_ ⟨d11, ?_, rfl⟩
    · cases hb : v11.2.fbad
      · have := p11 hb; simp only [Bool.toNat_false]; omega
      · simp only [Bool.toNat_true]; omega
    · simp only [List.length_append, List.length_cons, List.length_nil]
      cases hb : v11.2.fbad
      · have := p11 hb; simp only [Bool.toNat_false]; omega
      · simp only [Bool.toNat_true]; omega
  have hbl : bad.toNat ≤ 1 := by cases bad <;> simp
  obtain ⟨v13, h13, d13, l13, _⟩ := WM ⟨q, bad⟩ hq
  obtain ⟨v14, h14, d14, l14, _⟩ := WM v13.2 d13
  obtain ⟨v15, h15, d15, l15, _⟩ := WM v14.2 d14
  obtain ⟨v16, h16, d16, l16, _⟩ := n_wrd v15.2 d15
  obtain ⟨v18, h18, d18, l18, _⟩ := WM v16.2 d16
  simp only at l13
  refine ⟨v13, h13, v14, h14, v15, h15, v16, h16, v18, h18, ?_⟩
  refine ZV (I := fun k s => Wa s.2.1 ∧ s.2.2.2.2.length + s.2.1.length ≤ 1048577 + s.2.2.1.toNat ∧ k = s.2.1.length + 1 - s.2.2.1.toNat) ?_ (k := v18.2.fb.length + 1 - v18.2.fbad.toNat) ⟨d18, by simp only [List.length_nil]; omega, rfl⟩
  rintro k ⟨n2, q2, bad2, nm2, it⟩ ⟨hq2, hs2, hk2⟩ X2 hX2
  simp only at hq2 hs2 hk2 ⊢
  refine ⟨fun h => ?_, fun h => ?_⟩
  · have hb : bad2 = false := by cases bad2 <;> simp_all
    subst hb
    obtain ⟨v22, h22, ⟨d22, l22, p22⟩, _⟩ := GT ⟨q2, false⟩ hq2
    obtain ⟨v23, h23, ⟨d23, l23, p23⟩⟩ := WM v22.2 d22
    simp only [Bool.toNat_false] at hs2 hk2 l22 p22
    refine ⟨v22, h22, v23, h23, by simp only [List.length_cons, List.length_nil]; omega, ?_⟩
    refine hX2 (v23.2.fb.length + 1 - v23.2.fbad.toNat) _ ?_ ⟨d23, ?_, rfl⟩
    · cases hb : v23.2.fbad
      · have := p23 hb; simp only [Bool.toNat_false]; omega
      · simp only [Bool.toNat_true]; omega
    · simp only [List.length_append, List.length_cons, List.length_nil]
      cases hb : v23.2.fbad
      · have := p23 hb; simp only [Bool.toNat_false]; omega
      · simp only [Bool.toNat_true]; omega
  obtain ⟨v25, h25, ⟨d25, _, _⟩, s25⟩ := GT ⟨q2, bad2⟩ hq2
  obtain ⟨v27, h27, d27, _, _⟩ := WM v25.2 d25
  obtain ⟨v28, h28, d28, _, _⟩ := WM v27.2 d27
  obtain ⟨v29, h29, d29, _, _⟩ := WM v28.2 d28
  obtain ⟨v30, h30, d30, _, _⟩ := WM v29.2 d29
  obtain ⟨v31, h31, d31, _, _⟩ := WM v30.2 d30
  obtain ⟨v32, h32, d32, _, _⟩ := WM v31.2 d31
  obtain ⟨v33, h33, d33, _, _⟩ := WM v32.2 d32
  obtain ⟨v34, h34, ⟨d34, _, _⟩, _⟩ := GT v33.2 d33
  obtain ⟨v35, h35, d35, _, _⟩ := WM v34.2 d34
  obtain ⟨v36, h36, d36, _, _⟩ := WM v35.2 d35
  obtain ⟨v37, h37, d37, _, _⟩ := WM v36.2 d36
  obtain ⟨v38, h38, ⟨d38, _, _⟩, s38⟩ := GT v37.2 d37
  refine ⟨v25, h25, by omega, v27, h27, v28, h28, v29, h29, v30, h30, v31, h31, v32, h32, v33, h33, v34, h34, v35, h35, v36, h36, v37, h37, v38, h38, by omega, _, Yv _, fun h => ?_, fun h => ?_⟩
  · exact P0 Sd
  · simp only [Jw, Bool.or_eq_false_iff] at h
    refine ⟨fun h0 => absurd rfl h0, fun _ => ⟨?_, ?_⟩⟩
    · simpa using h.1.2
    · simpa using h.2
theorem NJ {n : Int} (h : 0 ≤ n ∧ n ≤ 4611686018427387904) : Jg n = VP n := by unfold Jg; rw [if_neg (by omega)]
theorem r1 (n : Int) (h : 0 ≤ n ∧ n ≤ 4611686018427387904) : QV n (Jg n) := by rw [NJ h]; exact BQ n h
theorem BS (x : Qu) : JR x (B0 x) := by
  unfold JR Uo
  simp only [jn]
  have enc_no : Jf x ≠ 0 → B0 x = ([], Jf x) := fun h => by unfold B0; rw [if_pos h]
  refine ⟨Jf x, ET x, fun h => enc_no (by simpa using h), fun h => ?_⟩
  have h0 : Jf x = 0 := by simpa using h
  have F := IN h0
  have k0 := F.kind; have k1 := F.pk; have k2 := F.ps; have k3 := F.pd; have k4 := F.qc; have k5 := F.qn; have k6 := F.qd; have k7 := F.qk; have k8 := F.ex; have k9 := F.so; have k10 := F.ha; have k11 := F.ix; have k12 := F.cu; have k13 := F.co
  have j1 := F.names; have j2 := F.items; have j3 := F.coins; have j4 := F.data
  have a0 := Zi x.ff; have a1 := Jp x.fb1; have a2 := Jp x.fa5; have a3 := Zi (x.fy.length : Int)
  have a4 := Zi x.fa.ff; have a5 := Zi x.fa.fh; have a6 := Zi x.fa.fp; have a7 := Zi (x.fj.length : Int)
  have a8 := Jp (strOfNums x.fa2); have a9 := Jp x.fi.f3; have b1 := Jp (strOfNums x.fa6); have b2 := Zi x.fi.fo; have b3 := Zi x.fi.fa9; have b4 := Zi x.fi.fa7
  have n1 := F.name; have n2 := F.other; have n3 := F.qs
  have s1 : (strOfNums x.fa2).size ≤ 65536 := by rw [KJ]; omega
  have s2 : (strOfNums x.fa6).size ≤ 65536 := by rw [KJ]; omega
  have lw := Zu 8 x.fa.fv
  refine ⟨_, r1 _ (by omega), _, XQ _ (by omega), by omega, _, XQ _ (by omega), by simp only [List.length_append]; omega, _, r1 _ (by omega), by simp only [List.length_append]; omega, ?_⟩
  refine ZV (I := fun k s => ∃ j : Nat, s.2 = (j : Int) ∧ j ≤ x.fy.length ∧ k = x.fy.length - j ∧ s.1 = ((((Jg x.ff) ++ (UB x.fb1)) ++ (UB x.fa5)) ++ (Jg (x.fy.length : Int))) ++ (x.fy.take j).flatMap UB) ?_ (k := x.fy.length) ⟨0, rfl, by omega, by omega, by simp⟩
  rintro k ⟨p10, i⟩ ⟨j, hj, hj1, hk, hp⟩ X hX
  simp only at hj hp ⊢
  subst hj
  have lp10 : p10.length ≤ 300000 := by
    have k3 := Eh (f := UB) (m := 25) (l := x.fy.take j) (fun t ht => GQ t 16 (F.each t (List.mem_of_mem_take ht)))
    rw [List.length_take] at k3
    rw [hp]; simp only [List.length_append]; omega
  refine ⟨fun h => ?_, fun h => ?_⟩
  · have hj2 : j < x.fy.length := by simp at h; omega
    obtain ⟨t, ht, hg⟩ := Kg (l := x.fy) (n := (j : Int)) (by omega) (by omega)
    have htx := Jp t
    have hts := F.each t (List.mem_of_getElem? hg)
    refine ⟨t, ht, _, XQ t (by omega), by omega, ?_⟩
    rw [Zm (by omega)]
    refine hX (x.fy.length - (j + 1)) _ (by omega) ⟨j + 1, by simp, by omega, rfl, ?_⟩
    have e : x.fy.take (j + 1) = x.fy.take j ++ [t] := by rw [List.take_add_one]; simp at hg; simp [hg]
    rw [e, hp]; simp
  · have hj2 : j = x.fy.length := by simp at h; omega
    subst hj2
    rw [List.take_length] at hp
    have eA : ((((p10 ++ Jg x.fa.ff) ++ Jg x.fa.fh) ++ Jg x.fa.fp) ++ Wb 8 x.fa.fv) = FD x := by rw [hp]; simp [FD]
    refine ⟨_, r1 _ (by omega), by omega, _, r1 _ (by omega), by simp only [List.length_append]; omega, _, r1 _ (by omega), by simp only [List.length_append]; omega, _, LY _, by simp only [List.length_append]; omega, _, r1 _ (by omega), ?_⟩
    rw [eA]
    have lA := IO F
    refine ⟨by omega, ?_⟩
    refine ZV (I := fun k s => ∃ j : Nat, s.2 = (j : Int) ∧ j ≤ x.fj.length ∧ k = x.fj.length - j ∧ s.1 = (FD x ++ Jg (x.fj.length : Int)) ++ (x.fj.take j).flatMap M2) ?_ (k := x.fj.length) ⟨0, rfl, by omega, by omega, by simp⟩
    rintro k ⟨c, i⟩ ⟨j, hj, hj1, hk, hc⟩ X hX
    simp only at hj hc ⊢
    subst hj
    have hcl : c.length ≤ 10000 := by
      have k3 := Eh (f := M2) (m := 50) (l := x.fj.take j) (fun t ht => IP F t (List.mem_of_mem_take ht))
      rw [List.length_take] at k3
      rw [hc]; simp only [List.length_append]; omega
    refine ⟨fun h => ?_, fun h => ?_⟩
    · have hj2 : j < x.fj.length := by simp at h; omega
      obtain ⟨t, ht, hg⟩ := Kg (l := x.fj) (n := (j : Int)) (by omega) (by omega)
      have htx := Jp t.f3
      have hti := F.item t (List.mem_of_getElem? hg)
      have hte := Zi t.f4
      refine ⟨t, ht, _, XQ t.f3 (by omega), by omega, t, ht, _, r1 t.f4 (by omega), by simp only [List.length_append]; omega, ?_⟩
      rw [Zm (by omega)]
      refine hX (x.fj.length - (j + 1)) _ (by omega) ⟨j + 1, by simp, by omega, rfl, ?_⟩
      have e : x.fj.take (j + 1) = x.fj.take j ++ [t] := by rw [List.take_add_one]; simp at hg; simp [hg]
      rw [e, hc]; simp [M2]
    · have hj2 : j = x.fj.length := by simp at h; omega
      subst hj2
      rw [List.take_length] at hc
      have eB : c = FE x := by rw [hc]; simp [FE]
      subst eB
      refine ⟨_, XQ _ s1, by omega, ?_⟩
      refine ZV (I := fun k s => ∃ j : Nat, s.2.2 = (j : Int) ∧ j ≤ 7 ∧ k = 7 - j ∧ s.2.1 = [x.f6, x.f9, x.fa0, x.fa4, x.fa1, x.fo, x.fi.ff] ∧ s.1 = (FE x ++ UB (strOfNums x.fa2)) ++ ([x.f6, x.f9, x.fa0, x.fa4, x.fa1, x.fo, x.fi.ff].take j).flatMap Jg ∧ s.1.length ≤ 10000 + 65545 + 9 * j) ?_ (k := 7) ⟨0, rfl, by omega, by omega, rfl, by simp, by simp only [List.length_append]; omega⟩
      rintro k ⟨c, L, i⟩ ⟨j, hj, hj1, hk, hL, hc, hcl2⟩ X hX
      simp only at hj hL hc hcl2 ⊢
      subst hj
      have hrng : ∀ y ∈ L, 0 ≤ y ∧ y ≤ 4611686018427387904 := by
        rw [hL]; intro y hy
        simp only [List.mem_cons, List.not_mem_nil, or_false] at hy
        rcases hy with rfl | rfl | rfl | rfl | rfl | rfl | rfl <;> omega
      have hl7 : L.length = 7 := by rw [hL]; rfl
      refine ⟨fun h => ?_, fun h => ?_⟩
      · have hj2 : j < L.length := by simp at h; omega
        obtain ⟨t, ht, hg⟩ := Kg (l := L) (n := (j : Int)) (by omega) (by omega)
        have hte := Zi t
        refine ⟨t, ht, _, r1 t (hrng t (List.mem_of_getElem? hg)), by omega, ?_⟩
        rw [Zm (by omega)]
        refine hX (7 - (j + 1)) _ (by omega) ⟨j + 1, by simp, by omega, rfl, hL, ?_, by simp only [List.length_append]; omega⟩
        have e : L.take (j + 1) = L.take j ++ [t] := by rw [List.take_add_one]; simp at hg; simp [hg]
        rw [← hL] at hc ⊢
        rw [e, hc]; simp
      · have hj2 : j = 7 := by simp at h; omega
        subst hj2
        refine ⟨_, XQ _ (by omega), by omega, _, r1 _ (by omega), by simp only [List.length_append]; omega, _, r1 _ (by omega), by simp only [List.length_append]; omega, _, r1 _ (by omega), by simp only [List.length_append]; omega, _, XQ _ s2, by simp only [List.length_append]; omega, ?_⟩
        have eE : (((((c ++ UB x.fi.f3) ++ Jg x.fi.fo) ++ Jg x.fi.fa9) ++ Jg x.fi.fa7) ++ UB (strOfNums x.fa6)) = Jq x := by rw [hc]; simp [Jq]
        rw [eE]
        refine ⟨_, W7 79 (Jq x) (by decide) (Wr x), ?_⟩
        have lE := FR F
        unfold B0 BO
        rw [if_neg (by simp [h0]), if_neg (by omega)]
theorem Wa.right {l a r : List Int} (e : l = a ++ r) (B : Wa l) : Wa r := by
  have := B.drop a.length
  rwa [e, List.drop_left] at this
theorem Vi {l r : List Int} {n : Int} (e : l = Jg n ++ r) (h : 0 ≤ n ∧ n ≤ 4611686018427387904) (B : Wa l) : QD ⟨l, false⟩ (n, ⟨r, false⟩) := by
  have k : QD ⟨l, false⟩ (L0 ⟨l, false⟩ (Y5 l) 0) := Rr ⟨l, false⟩ B
  have h2 : L0 ⟨l, false⟩ (Y5 l) (0 : Int) = (n, ⟨r, false⟩) := by
    rw [e, NJ h]; unfold L0; rw [GL n h.1 h.2 r]; simp
  rwa [h2] at k
theorem Pu (s : ByteArray) (hs : s.size ≤ 65536) (rest : List Int) : Ci (UB s ++ rest) = (s, ((UB s).length : Int), 0) := by
  have hL : UB s = VP s.size ++ sI s := by unfold UB; rw [if_neg (by omega)]
  have hl := Vr s
  unfold Ci
  rw [hL, List.append_assoc, GL _ (by omega) (by omega)]
  unfold Ea
  simp only [Int.toNat_natCast]
  rw [if_neg (by simp), if_neg (by omega), if_neg (by simp only [List.length_append, hl]; omega), List.drop_left, show s.size = (sI s).length from hl.symm, List.take_left, YH, List.length_append]
  simp
theorem Ax {l r : List Int} {s : ByteArray} (e : l = UB s ++ r) (h : s.size ≤ 65536) (B : Wa l) : Z7 ⟨l, false⟩ (s, ⟨r, false⟩) := by
  have k : Z7 ⟨l, false⟩ (L0 ⟨l, false⟩ (Ci l) ⟨#[]⟩) := Rt ⟨l, false⟩ B
  have h2 : L0 ⟨l, false⟩ (Ci l) (⟨#[]⟩ : ByteArray) = (s, ⟨r, false⟩) := by
    rw [e]; unfold L0; rw [Pu s h r]; simp
  rwa [h2] at k
theorem Rf {l r : List Int} {z : Int} (e : l = Wb 8 z ++ r) (h : 0 ≤ z ∧ z ≤ 18446744073709551615) (B : Wa l) : ZD ⟨l, false⟩ (z, ⟨r, false⟩) := by
  have k : ZD ⟨l, false⟩ (L0 ⟨l, false⟩ (E9 l) 0) := Rs ⟨l, false⟩ B
  have hw : E9 l = (z, 8, 0) := by
    have h8 := Zu 8 z
    rw [e]; unfold E9
    rw [if_neg (by simp only [List.length_append, h8]; omega), List.take_append_of_le_length (by omega), List.take_of_length_le (by omega), FQ 8 z h.1 (by simp; omega)]
  have h2 : L0 ⟨l, false⟩ (E9 l) (0 : Int) = (z, ⟨r, false⟩) := by
    rw [hw, e]; unfold L0
    have h8 := Zu 8 z
    have d8 : List.drop 8 (Wb 8 z ++ r) = r := by
      have := List.drop_left (l₁ := Wb 8 z) (l₂ := r)
      rwa [h8] at this
    simp [d8]
  rwa [h2] at k
def Uu (x : Qu) : Qu := ⟨x.ff, x.fb1, x.fa5, x.fy, x.fa, x.fj, sI (strOfNums x.fa2), x.f6, x.f9, x.fa0, x.fa4, x.fa1, x.fo, x.fi, sI (strOfNums x.fa6)⟩
theorem Rh (x : Qu) : Jq (Uu x) = Jq x := by
  have e1 : strOfNums (Uu x).fa2 = strOfNums x.fa2 := YH _
  have e2 : strOfNums (Uu x).fa6 = strOfNums x.fa6 := YH _
  unfold Jq
  rw [e1, e2]
  rfl
theorem Ri (x : Qu) : Jf (Uu x) = Jf x := by
  have hz : ∀ f, Ap (W9 (Uu x)) f = Ap (W9 x) f := by
    intro f
    unfold Ap
    split <;> first | rfl | simp [W9, Uu, Vr, KJ]
  have hc : Ze (Uu x) = Ze x := by
    funext f
    unfold Ze
    split <;> first | rfl | simp [Uu, Vr, KJ]
  have hk : (W9 (Uu x)).kind = (W9 x).kind := rfl
  unfold Jf EO
  simp only [hz, hc, hk]
theorem NK (x : Qu) (h : (Jq x).length ≤ 1048576) : Wa (ZZ 79 (Jq x)) := by
  have hl := Y6 79 (Jq x)
  have h4 := Zu 4 (C6 (Ku 79 (Jq x)))
  have h9 := JA ((Jq x).length : Int)
  have hf : ZZ 79 (Jq x) = Ku 79 (Jq x) ++ Wb 4 (C6 (Ku 79 (Jq x))) := by unfold ZZ; rw [if_neg (by omega)]
  rw [hf]
  refine Wa.of (by simp only [List.length_append]; omega) fun c hc => ?_
  rcases List.mem_append.1 hc with h | h
  · exact C8 (by decide) (Wr x) c h
  · exact bounds_u8 (II 4 _ c h)
theorem MV (x : Qu) (h : Jf x = 0) (hz : 0 ≤ x.fa.fv ∧ x.fa.fv ≤ 18446744073709551615) : Kf (ZZ 79 (Jq x)) (Uu x, 0) := by
  have F := IN h
  have k0 := F.kind; have k1 := F.pk; have k2 := F.ps; have k3 := F.pd; have k4 := F.qc; have k5 := F.qn; have k6 := F.qd; have k7 := F.qk; have k8 := F.ex; have k9 := F.so; have k10 := F.ha; have k11 := F.ix; have k12 := F.cu; have k13 := F.co
  have j1 := F.names; have j2 := F.items; have j3 := F.coins; have j4 := F.data
  have n1 := F.name; have n2 := F.other; have n3 := F.qs
  have s1 : (strOfNums x.fa2).size ≤ 65536 := by rw [KJ]; omega
  have s2 : (strOfNums x.fa6).size ≤ 65536 := by rw [KJ]; omega
  have lb := FR F
  have BF := NK x (by omega)
  have hu : FP (ZZ 79 (Jq x)) = (79, Jq x, ((ZZ 79 (Jq x)).length : Int), 0) := by
    have := I1 79 (Jq x) [] (by omega)
    rwa [List.append_nil] at this
  have BB : Wa (Jq x) := Wa.of (by omega) (Wr x)
  unfold Kf Kw
  simp only [jn]
  refine ⟨FP _, BR _ BF, ?_⟩
  rw [hu]
  simp only
  refine ⟨fun c => by simp at c, fun _ => ?_⟩
  obtain ⟨r23, e23⟩ : ∃ r, r = UB (strOfNums x.fa6) ++ ([] : List Int) := ⟨_, rfl⟩
  obtain ⟨r22, e22⟩ : ∃ r, r = Jg x.fi.fa7 ++ r23 := ⟨_, rfl⟩
  obtain ⟨r21, e21⟩ : ∃ r, r = Jg x.fi.fa9 ++ r22 := ⟨_, rfl⟩
  obtain ⟨r20, e20⟩ : ∃ r, r = Jg x.fi.fo ++ r21 := ⟨_, rfl⟩
  obtain ⟨r19, e19⟩ : ∃ r, r = UB x.fi.f3 ++ r20 := ⟨_, rfl⟩
  obtain ⟨r18, e18⟩ : ∃ r, r = Jg x.fi.ff ++ r19 := ⟨_, rfl⟩
  obtain ⟨r17, e17⟩ : ∃ r, r = Jg x.fo ++ r18 := ⟨_, rfl⟩
  obtain ⟨r16, e16⟩ : ∃ r, r = Jg x.fa1 ++ r17 := ⟨_, rfl⟩
  obtain ⟨r15, e15⟩ : ∃ r, r = Jg x.fa4 ++ r16 := ⟨_, rfl⟩
  obtain ⟨r14, e14⟩ : ∃ r, r = Jg x.fa0 ++ r15 := ⟨_, rfl⟩
  obtain ⟨r13, e13⟩ : ∃ r, r = Jg x.f9 ++ r14 := ⟨_, rfl⟩
  obtain ⟨r12, e12⟩ : ∃ r, r = Jg x.f6 ++ r13 := ⟨_, rfl⟩
  obtain ⟨r11, e11⟩ : ∃ r, r = UB (strOfNums x.fa2) ++ r12 := ⟨_, rfl⟩
  obtain ⟨r10, e10⟩ : ∃ r, r = x.fj.flatMap M2 ++ r11 := ⟨_, rfl⟩
  obtain ⟨r9, e9⟩ : ∃ r, r = Jg (x.fj.length : Int) ++ r10 := ⟨_, rfl⟩
  obtain ⟨r8, e8⟩ : ∃ r, r = Wb 8 x.fa.fv ++ r9 := ⟨_, rfl⟩
  obtain ⟨r7, e7⟩ : ∃ r, r = Jg x.fa.fp ++ r8 := ⟨_, rfl⟩
  obtain ⟨r6, e6⟩ : ∃ r, r = Jg x.fa.fh ++ r7 := ⟨_, rfl⟩
  obtain ⟨r5, e5⟩ : ∃ r, r = Jg x.fa.ff ++ r6 := ⟨_, rfl⟩
  obtain ⟨r4, e4⟩ : ∃ r, r = x.fy.flatMap UB ++ r5 := ⟨_, rfl⟩
  obtain ⟨r3, e3⟩ : ∃ r, r = Jg (x.fy.length : Int) ++ r4 := ⟨_, rfl⟩
  obtain ⟨r2, e2⟩ : ∃ r, r = UB x.fa5 ++ r3 := ⟨_, rfl⟩
  obtain ⟨r1, e1⟩ : ∃ r, r = UB x.fb1 ++ r2 := ⟨_, rfl⟩
  have e0 : Jq x = Jg x.ff ++ r1 := by
    rw [e1, e2, e3, e4, e5, e6, e7, e8, e9, e10, e11, e12, e13, e14, e15, e16, e17, e18, e19, e20, e21, e22, e23]
    simp only [Jq, FE, FD, List.flatMap_cons, List.flatMap_nil, List.append_assoc, List.nil_append, List.append_nil]
  have B1 := BB.right e0
  have B2 := B1.right e1
  have B3 := B2.right e2
  have B4 := B3.right e3
  have B5 := B4.right e4
  have B6 := B5.right e5
  have B7 := B6.right e6
  have B8 := B7.right e7
  have B9 := B8.right e8
  have B10 := B9.right e9
  have B11 := B10.right e10
  have B12 := B11.right e11
  have B13 := B12.right e12
  have B14 := B13.right e13
  have B15 := B14.right e14
  have B16 := B15.right e15
  have B17 := B16.right e16
  have B18 := B17.right e17
  have B19 := B18.right e18
  have B20 := B19.right e19
  have B21 := B20.right e20
  have B22 := B21.right e21
  have B23 := B22.right e22
  refine ⟨_, Vi e0 (by omega) BB, _, Ax e1 (by omega) B1, _, Ax e2 (by omega) B2, _, Vi e3 (by omega) B3, ?_⟩
  refine ZV (I := fun k s => ∃ j : Nat, j ≤ x.fy.length ∧ k = x.fy.length - j ∧ s.1 = ((x.fy.length - j : Nat) : Int) ∧ s.2.1 = (x.fy.drop j).flatMap UB ++ r5 ∧ s.2.2.1 = false ∧ s.2.2.2 = x.fy.take j) ?_ (k := x.fy.length) ⟨0, by omega, rfl, rfl, by simpa using e4, rfl, rfl⟩
  rintro k ⟨m, q, bad, nm⟩ ⟨j, hj, hk, hm, hq, hb, hn⟩ X hX
  simp only at hm hq hb hn ⊢
  subst hm; subst hb; subst hn
  have Bq : Wa q := by
    have h1 : r4 = (x.fy.take j).flatMap UB ++ q := by rw [hq, ← List.append_assoc, ← List.flatMap_append, List.take_append_drop]; exact e4
    exact B4.right h1
  refine ⟨fun c => ?_, fun c => ?_⟩
  · have hj2 : j < x.fy.length := by simp at c; omega
    have hdr : x.fy.drop j = x.fy[j] :: x.fy.drop (j + 1) := List.drop_eq_getElem_cons hj2
    have hts := F.each x.fy[j] (List.getElem_mem hj2)
    have eq : q = UB x.fy[j] ++ ((x.fy.drop (j + 1)).flatMap UB ++ r5) := by rw [hq, hdr, List.flatMap_cons, List.append_assoc]
    refine ⟨_, Ax eq (by omega) Bq, by simp; omega, ?_⟩
    refine hX (x.fy.length - (j + 1)) _ (by omega) ⟨j + 1, by omega, rfl, ?_, rfl, rfl, ?_⟩
    · simp only; rw [Zm (by omega)]; omega
    · simp only; rw [List.take_succ_eq_append_getElem hj2]
  have hj2 : j = x.fy.length := by simp at c; omega
  subst hj2
  rw [List.drop_length, List.flatMap_nil, List.nil_append] at hq
  subst hq
  rw [List.take_length]
  refine ⟨_, Vi e5 (by omega) B5, _, Vi e6 (by omega) B6, _, Vi e7 (by omega) B7, _, Rf e8 hz B8, _, Vi e9 (by omega) B9, ?_⟩
  refine ZV (I := fun k s => ∃ j : Nat, j ≤ x.fj.length ∧ k = x.fj.length - j ∧ s.1 = ((x.fj.length - j : Nat) : Int) ∧ s.2.1 = (x.fj.drop j).flatMap M2 ++ r11 ∧ s.2.2.1 = false ∧ s.2.2.2.1 = x.fy ∧ s.2.2.2.2 = x.fj.take j) ?_ (k := x.fj.length) ⟨0, by omega, rfl, rfl, by simpa using e10, rfl, rfl, rfl⟩
  rintro k ⟨m, q, bad, nm, it⟩ ⟨j, hj, hk, hm, hq, hb, hn, hi⟩ X hX
  simp only at hm hq hb hn hi ⊢
  subst hm; subst hb; subst hn; subst hi
  have Bq : Wa q := by
    have h1 : r10 = (x.fj.take j).flatMap M2 ++ q := by rw [hq, ← List.append_assoc, ← List.flatMap_append, List.take_append_drop]; exact e10
    exact B10.right h1
  refine ⟨fun c => ?_, fun c => ?_⟩
  · have hj2 : j < x.fj.length := by simp at c; omega
    have hdr : x.fj.drop j = x.fj[j] :: x.fj.drop (j + 1) := List.drop_eq_getElem_cons hj2
    have hti := F.item x.fj[j] (List.getElem_mem hj2)
    have eq : q = UB x.fj[j].f3 ++ (Jg x.fj[j].f4 ++ ((x.fj.drop (j + 1)).flatMap M2 ++ r11)) := by rw [hq, hdr, List.flatMap_cons]; simp only [M2, List.append_assoc]
    refine ⟨_, Ax eq (by omega) Bq, _, Vi rfl (by omega) (Bq.right eq), by simp; omega, ?_⟩
    refine hX (x.fj.length - (j + 1)) _ (by omega) ⟨j + 1, by omega, rfl, ?_, rfl, rfl, rfl, ?_⟩
    · simp only; rw [Zm (by omega)]; omega
    · simp only; rw [List.take_succ_eq_append_getElem hj2]
  have hj2 : j = x.fj.length := by simp at c; omega
  subst hj2
  rw [List.drop_length, List.flatMap_nil, List.nil_append] at hq
  subst hq
  rw [List.take_length]
  refine ⟨_, Ax e11 (by omega) B11, (by simp only; omega), _, Vi e12 (by omega) B12, _, Vi e13 (by omega) B13, _, Vi e14 (by omega) B14, _, Vi e15 (by omega) B15, _, Vi e16 (by omega) B16, _, Vi e17 (by omega) B17, _, Vi e18 (by omega) B18, _, Ax e19 (by omega) B19, _, Vi e20 (by omega) B20, _, Vi e21 (by omega) B21, _, Vi e22 (by omega) B22, _, Ax e23 (by omega) B23, (by simp only; omega), B0 (Uu x), Yv (Uu x), fun c => ?_, fun c => ?_⟩
  · exfalso
    have hv : Jf (Uu x) = 0 := by rw [Ri, h]
    have hE : B0 (Uu x) = (ZZ 79 (Jq x), 0) := by unfold B0; rw [if_neg (by simp [hv]), Rh]
    rw [hE] at c
    simp at c
  · rfl
theorem IQ (x : Qu) (h1 : x.fy.length ≤ 4611686018427387904) (h2 : x.fj.length ≤ 4611686018427387904) : W4 (Uu x) x true := by
  have e1 : strOfNums (Uu x).fa2 = strOfNums x.fa2 := YH _
  have e2 : strOfNums (Uu x).fa6 = strOfNums x.fa6 := YH _
  unfold W4 As
  rw [e1, e2]
  have f1 : (Uu x).fy = x.fy := rfl
  have f2 : (Uu x).fj = x.fj := rfl
  rw [f1, f2]
  simp only [jn]
  refine ⟨fun c => ?_, fun _ => ?_⟩
  · exfalso; simp [Uu] at c
  refine ZV (I := fun k s => ∃ j : Nat, s = (j : Int) ∧ j ≤ x.fy.length ∧ k = x.fy.length - j) ?_ (k := x.fy.length) ⟨0, rfl, by omega, rfl⟩
  rintro k s ⟨j, rfl, hj, hk⟩ X hX
  refine ⟨fun c => ?_, fun c => ?_⟩
  · have hj2 : j < x.fy.length := by simp at c; omega
    obtain ⟨t, ht, _⟩ := Kg (l := x.fy) (n := (j : Int)) (by omega) (by omega)
    refine ⟨t, ht, t, ht, fun d => by simp at d, fun _ => ?_⟩
    rw [Zm (by omega)]
    exact hX (x.fy.length - (j + 1)) _ (by omega) ⟨j + 1, by simp, by omega, rfl⟩
  refine ZV (I := fun k s => ∃ j : Nat, s = (j : Int) ∧ j ≤ x.fj.length ∧ k = x.fj.length - j) ?_ (k := x.fj.length) ⟨0, rfl, by omega, rfl⟩
  rintro k s ⟨j, rfl, hj, hk⟩ X hX
  refine ⟨fun c => ?_, fun c => ?_⟩
  · have hj2 : j < x.fj.length := by simp at c; omega
    obtain ⟨t, ht, _⟩ := Kg (l := x.fj) (n := (j : Int)) (by omega) (by omega)
    refine ⟨t, ht, t, ht, fun d => by simp at d, fun _ => ?_⟩
    rw [Zm (by omega)]
    exact hX (x.fj.length - (j + 1)) _ (by omega) ⟨j + 1, by simp, by omega, rfl⟩
  · first | rfl | trivial
def Rj : Qu := Qu.mk (4) (ByteArray.empty) (ByteArray.empty) ([] : (List ByteArray)) (Qr.mk (0) (0) (0) (0)) ([] : (List Qh)) ([] : (List Int)) (0) (0) (0) (0) (0) (0) (QE.mk (0) (ByteArray.empty) (0) (0) (0)) ([] : (List Int))
def lsN : Qu := Qu.mk (4) ((⟨#[97]⟩ : ByteArray)) (ByteArray.empty) ([] : (List ByteArray)) (Qr.mk (0) (0) (0) (0)) ([] : (List Qh)) ([] : (List Int)) (0) (0) (0) (0) (0) (0) (QE.mk (0) (ByteArray.empty) (0) (0) (0)) ([] : (List Int))
theorem Ru (C : Nat → Int) : UA (Ut 4 C) = 0 := rfl
theorem Pv : Jf Rj = 0 := by
  have e : (ByteArray.empty).toList = [] := Yu
  unfold Jf EO
  rw [if_neg (by unfold Kd W9 Rj; simp), if_neg (by show ¬ UA (Ut 4 _) ≠ 0; rw [Ru]; simp), if_pos]
  simp [List.range, List.range.loop, Ap, W9, Rj, e]
theorem Sf : Jf lsN = 18 := by
  unfold Jf EO
  rw [if_neg (by unfold Kd W9 lsN; simp), if_neg (by show ¬ UA (Ut 4 _) ≠ 0; rw [Ru]; simp), if_neg]
  simp only [List.all_eq_true, List.mem_range, Bool.or_eq_true]
  intro h
  rcases h 0 (by decide) with h | h
  · revert h; show ZY 4 0 = true → False; decide
  · simp [Ap, W9, lsN] at h
theorem NL : Jz true := by
  unfold Jz UQ
  have hE : B0 Rj = (ZZ 79 (Jq Rj), 0) := by unfold B0; rw [if_neg (by simp [Pv])]
  refine ⟨(ZZ 79 (Jq Rj), 0), hE ▸ Yv Rj, (Uu Rj, 0), MV Rj Pv (by decide), 18, fun _ => Sf ▸ WL lsN, true, fun _ => ?_, false, fun _ => ?_, ?_⟩
  · show true = O6 4; decide
  · show false = O6 6; decide
  · rfl
theorem U4 (l : List Int) (i : Int) (hl : l.length ≤ 4611686018427387904) (h0 : 0 ≤ i) (h1 : i ≤ 1000) : ∃ v, Xk l i v ∧ 0 ≤ v ∧ v ≤ 66600 := by
  unfold Xk EB
  simp only [IG]
  by_cases hz : l.length = 0
  · refine ⟨i % 65536, ⟨fun _ => rfl, fun h => ?_⟩, by omega, by omega⟩
    simp [hz] at h
  · have hp : (0 : Int) < l.length := by omega
    have e : i.tmod (l.length : Int) = i % l.length := JU h0
    have e1 : 0 ≤ i % (l.length : Int) := Int.emod_nonneg _ (by omega)
    have e2 : i % (l.length : Int) < l.length := Int.emod_lt_of_pos _ hp
    obtain ⟨v, hv, _⟩ := Kg (l := l) (n := i % l.length) e1 e2
    have t1 : i.tdiv (l.length : Int) = i / l.length := Int.tdiv_eq_ediv_of_nonneg h0
    have t2 : 0 ≤ i / (l.length : Int) := Int.ediv_nonneg h0 (by omega)
    have t3 : i / (l.length : Int) ≤ i := Int.ediv_le_self _ h0
    have w1 : IntKind.i64.wrap (i / (l.length : Int)) = i / l.length := Zm (by omega)
    have w2 : IntKind.i64.wrap (v % 65536 + i / (l.length : Int)) = v % 65536 + i / l.length := Zm (by omega)
    refine ⟨v % 65536 + i / l.length, ⟨fun h => ?_, fun _ => ⟨by omega, v, by rw [e]; exact hv, by omega, by rw [t1, w1, w2]⟩⟩, by omega, by omega⟩
    simp at h; exact absurd h (by intro e; rw [e] at hz; exact hz rfl)
theorem UD (a : Int) : ∃ s, ZM a s ∧ CG s = true := by
  unfold ZM Br
  rw [MN, JU (by omega)]
  have h3 : a % 16777216 % 3 = 0 ∨ a % 16777216 % 3 = 1 ∨ a % 16777216 % 3 = 2 := by omega
  rcases h3 with h | h | h <;> rw [h]
  · exact ⟨⟨#[97]⟩, ⟨_, ⟨by decide, rfl⟩, rfl⟩, by decide⟩
  · exact ⟨⟨#[98]⟩, ⟨_, ⟨by decide, rfl⟩, rfl⟩, by decide⟩
  · exact ⟨⟨#[99]⟩, ⟨_, ⟨by decide, rfl⟩, rfl⟩, by decide⟩
def Hp (p : Qr) : Prop :=
  (p.ff = 1 ∧ p.fh = 0 ∧ p.fp = 0 ∧ p.fv = 0) ∨ (p.ff = 2 ∧ 1 ≤ p.fh ∧ p.fh ≤ 4 ∧ 1 ≤ p.fp ∧ p.fp ≤ 2 ∧ 0 ≤ p.fv ∧ p.fv ≤ 3)
  ∨ (p.ff = 3 ∧ 2 ≤ p.fh ∧ p.fh ≤ 3 ∧ p.fp = 0 ∧ 0 ≤ p.fv ∧ p.fv ≤ 3) ∨ ((p.ff = 4 ∨ p.ff = 5) ∧ 1 ≤ p.fh ∧ p.fh ≤ 4 ∧ p.fp = 0 ∧ p.fv = 0)
  ∨ (p.ff = 6 ∧ (p.fh = 2 ∨ p.fh = 4) ∧ p.fp = 0 ∧ p.fv = 0)
theorem Og {p : Qr} (h : Hp p) : WJ p.ff p.fh p.fp p.fv = 0 := by
  unfold Hp at h; unfold WJ
  grind
theorem CI (a : Int) : ∃ p, Xl a p ∧ Hp p := by
  unfold Xl UI
  simp only [bA1, bA3]
  generalize QR .i64 a 3 = s3; generalize QR .i64 a 4 = s4; generalize QR .i64 a 8 = s8
  have w1 : IntKind.i64.wrap (1 + s4 % 4) = 1 + s4 % 4 := Zm (by omega)
  have w2 : IntKind.i64.wrap (1 + s3 % 2) = 1 + s3 % 2 := Zm (by omega)
  have w3 : IntKind.u64.wrap (s8 % 4) = s8 % 4 := Aa (by omega)
  have w4 : IntKind.i64.wrap (2 + s3 % 2) = 2 + s3 % 2 := Zm (by omega)
  have w5 : IntKind.i64.wrap (1 + s3 % 4) = 1 + s3 % 4 := Zm (by omega)
  have w6 : IntKind.i64.wrap (2 * (s3 % 2)) = 2 * (s3 % 2) := Zm (by omega)
  have w7 : IntKind.i64.wrap (2 + 2 * (s3 % 2)) = 2 + 2 * (s3 % 2) := Zm (by omega)
  simp only [w1, w2, w3, w4, w5, w6, w7]
  generalize a.tmod 6 = k
  by_cases k0 : k = 0
  · refine ⟨⟨1, 0, 0, 0⟩, ?_, by simp [Hp]⟩; simp [k0]
  by_cases k1 : k = 1
  · refine ⟨⟨2, 1 + s4 % 4, 1 + s3 % 2, s8 % 4⟩, ?_, by simp [Hp]; omega⟩; simp [k1]
  by_cases k2 : k = 2
  · refine ⟨⟨3, 2 + s3 % 2, 0, s8 % 4⟩, ?_, by simp [Hp]; omega⟩; simp [k2]
  by_cases k3 : k = 3
  · refine ⟨⟨4, 1 + s3 % 4, 0, 0⟩, ?_, by simp [Hp]; omega⟩; simp [k3]
  by_cases k4 : k = 4
  · refine ⟨⟨5, 1 + s3 % 4, 0, 0⟩, ?_, by simp [Hp]; omega⟩; simp [k4]
  refine ⟨⟨6, 2 + 2 * (s3 % 2), 0, 0⟩, ?_, by simp [Hp]; omega⟩
  simp [k0, k1, k2, k3, k4]
theorem GU (a : Int) : ∃ s, Yp a s ∧ 1 ≤ s.size ∧ s.size ≤ 32 := by
  unfold Yp CY
  simp only [bA15, bA255, List.length_cons, List.length_nil]
  generalize hs : QR .i64 a 8 % 16 = k
  by_cases hk : k = 15
  · refine ⟨_, ⟨fun _ => rfl, fun h => by simp [hk] at h⟩, ?_⟩
    rw [KJ]; simp
  · have e : (a % 256).tmod ((0 + 1 + 1 + 1 + 1 + 1 + 1 + 1 + 1 + 1 + 1 + 1 + 1 : Nat) : Int) = a % 256 % 12 := JU (by omega)
    rw [e]
    have hall : ∀ x ∈ ([⟨#[97]⟩, ⟨#[98]⟩, ⟨#[99]⟩, ⟨#[100]⟩, ⟨#[101]⟩, ⟨#[102]⟩, ⟨#[97, 97]⟩, ⟨#[98, 32, 99]⟩, ⟨#[37, 54, 49]⟩, ⟨#[65, 58, 49]⟩, ⟨#[0]⟩, ⟨#[122, 47, 255]⟩] : List ByteArray), 1 ≤ x.size ∧ x.size ≤ 32 := by decide
    obtain ⟨x, hx, hg⟩ := Kg (l := ([⟨#[97]⟩, ⟨#[98]⟩, ⟨#[99]⟩, ⟨#[100]⟩, ⟨#[101]⟩, ⟨#[102]⟩, ⟨#[97, 97]⟩, ⟨#[98, 32, 99]⟩, ⟨#[37, 54, 49]⟩, ⟨#[65, 58, 49]⟩, ⟨#[0]⟩, ⟨#[122, 47, 255]⟩] : List ByteArray)) (n := a % 256 % 12) (by omega) (by simp; omega)
    exact ⟨x, ⟨fun h => by simp at h; exact absurd h hk, fun _ => ⟨by decide, x, hx, rfl⟩⟩, hall x (List.mem_of_getElem? hg)⟩
theorem IR (a : Int) : ∃ q, XX a q ∧ US q.ff q.f3 q.fo q.fa9 q.fa7 = 0 := by
  unfold XX Ai
  have z : (ByteArray.empty).toList = [] := Yu
  obtain ⟨s, hs, hs1, hs2⟩ := GU (QR .i64 a 3)
  simp only [bA3, bA7]
  generalize QR .i64 a 3 = s3 at *; generalize QR .i64 a 5 = s5
  have w : IntKind.i64.wrap (3 + s5 % 4) = 3 + s5 % 4 := Zm (by omega)
  rw [w]
  generalize a.tmod 7 = k
  by_cases k0 : k = 0
  · refine ⟨⟨1, .empty, 0, 0, 0⟩, ?_, by simp [US, z]⟩; simp [k0]
  by_cases k1 : k = 1
  · refine ⟨⟨2, s, 0, 0, 0⟩, ?_, by simp [US, hs1, hs2]⟩; simp [k1, hs]
  by_cases k2 : k = 2
  · refine ⟨⟨3, .empty, 0, 0, 0⟩, ?_, by simp [US, z]⟩; simp [k2]
  by_cases k3 : k = 3
  · refine ⟨⟨4, .empty, 0, 0, 0⟩, ?_, by simp [US, z]⟩; simp [k3]
  by_cases k4 : k = 4
  · refine ⟨⟨5, .empty, s3 % 8, 0, 0⟩, ?_, by simp [US, z]; omega⟩; simp [k4]
  by_cases k5 : k = 5
  · refine ⟨⟨6, s, 0, 0, 0⟩, ?_, by simp [US, hs1, hs2]⟩; simp [k5, hs]
  refine ⟨⟨7, .empty, 0, s3 % 4, 3 + s5 % 4⟩, ?_, by simp [US, z]; omega⟩
  simp [k0, k1, k2, k3, k4, k5]
theorem M5 (a : Int) : ∃ x, WB a x ∧ FN x = 0 := by
  unfold WB Bs
  obtain ⟨s, hs, hs1, hs2⟩ := GU a
  simp only [bA3, bA7, bA15, IG, jn]
  generalize QR .i64 a 12 = s12; generalize QR .i64 a 4 = s4
  have w1 : IntKind.i64.wrap (a % 65536 * 65537) = a % 65536 * 65537 := Zm (by omega)
  have w2 : (a % 65536 * 65537).tmod 4294967295 = a % 65536 * 65537 % 4294967295 := JU (by omega)
  have w3 : IntKind.i64.wrap (1 + a % 65536 * 65537 % 4294967295) = 1 + a % 65536 * 65537 % 4294967295 := Zm (by omega)
  have w4 : IntKind.i64.wrap (4294967295 - a % 4) = 4294967295 - a % 4 := Zm (by omega)
  have w5 : IntKind.i64.wrap (1 + s4 % 8) = 1 + s4 % 8 := Zm (by omega)
  simp only [w1, w2, w3, w4, w5]
  have it : ∀ w : Int, 1 ≤ w → w ≤ 4294967295 → FN ⟨s, w⟩ = 0 := by intro w h1 h2; simp [FN, hs1, hs2, h1, h2]
  generalize s12 % 16 = k
  by_cases k1 : k = 14
  · refine ⟨⟨s, 1 + a % 65536 * 65537 % 4294967295⟩, ?_, it _ (by omega) (by omega)⟩; simp [k1, hs]
  by_cases k2 : k = 15
  · refine ⟨⟨s, 4294967295 - a % 4⟩, ?_, it _ (by omega) (by omega)⟩; simp [k2, hs]
  refine ⟨⟨s, 1 + s4 % 8⟩, ?_, it _ (by omega) (by omega)⟩
  simp [k1, k2, hs]
theorem Ei (l : List Int) (n : Int) (hl : l.length ≤ 4611686018427387904) (h0 : 0 ≤ n) (h1 : n ≤ 1000) : ∃ r, VV l n r ∧ (r.length : Int) = n ∧ ∀ x ∈ r, FN x = 0 := by
  refine Iq (Post := fun r => (r.length : Int) = n ∧ ∀ x ∈ r, FN x = 0) ?_
  unfold XY
  simp only [jn]
  refine ZV (I := fun k s => (s.1.length : Int) = s.2 ∧ 0 ≤ s.2 ∧ s.2 ≤ n ∧ k = (n - s.2).toNat ∧ ∀ x ∈ s.1, FN x = 0) ?_ (k := n.toNat) ⟨rfl, by omega, by omega, by simp, by simp⟩
  rintro k ⟨r, i⟩ ⟨hr, hi0, hi1, hk, hx⟩ X hX
  simp only at hr hi0 hi1 hk hx ⊢
  refine ⟨fun h => ?_, fun h => ?_⟩
  · have hlt : i < n := by simpa using h
    obtain ⟨v, hv, _, _⟩ := U4 l i hl hi0 (by omega)
    obtain ⟨x, hx1, hx2⟩ := M5 v
    refine ⟨v, hv, x, hx1, by simp; omega, ?_⟩
    rw [Zm (by omega)]
    refine hX (n - (i + 1)).toNat _ (by omega) ⟨by simp; omega, by simp only; omega, by simp only; omega, rfl, ?_⟩
    intro y hy
    rcases List.mem_append.1 hy with h | h
    · exact hx y h
    · simp at h; rw [h]; exact hx2
  · have hge : ¬ i < n := by simpa using h
    exact ⟨by omega, hx⟩
theorem Ej (a : Int) : ∃ r, V6 a r ∧ r.length ≤ 4 := by
  unfold V6 Aj
  rw [bA3, Zm (by omega)]
  exact ⟨_, ⟨⟨by omega, by simp; omega⟩, rfl⟩, by simp; omega⟩
theorem BU {α : Type} {l : List α} (hl : l.length ≤ 4611686018427387904) {B : (Int → Prop) → Int → Prop} {J : Prop} (P : α → Prop)
    (hB : ∀ (j : Nat) x, j < l.length → l[j]? = some x → ∀ X : Int → Prop, (P x → X (IntKind.i64.wrap ((j : Int) + 1))) → B X (j : Int)) (hJ : (∀ x ∈ l, P x) → J) :
    lp (fun X s => (decide (s < (l.length : Int)) = true → B X s) ∧ (decide (s < (l.length : Int)) = false → J)) 0 := by
  refine IE l.length hl (fun j => ∀ i, i < j → ∀ y, l[i]? = some y → P y) (fun i hi => absurd hi (by omega)) ?_ ?_
  · intro j hj hI X hX
    obtain ⟨x, hx⟩ : ∃ x, l[j]? = some x := ⟨l[j], by simp [hj]⟩
    refine hB j x hj hx X fun h0 => hX fun i hi y hy => ?_
    by_cases e : i = j
    · subst e; rw [hx] at hy; cases hy; exact h0
    · exact hI i (by omega) y hy
  · intro hI
    refine hJ fun x hx => ?_
    obtain ⟨j, hj⟩ := List.getElem?_of_mem hx
    have := hj
    rw [List.getElem?_eq_some_iff] at this
    exact hI j this.1 x hj
theorem XR (t : QS) : ∃ v, Kb t v ∧ (v = 0 → (0 ≤ t.fk ∧ t.fk ≤ 4294967295) ∧ 0 ≤ t.fj ∧ t.fj ≤ 4294967295) := by
  refine Bu (Post := fun v => v = 0 → (0 ≤ t.fk ∧ t.fk ≤ 4294967295) ∧ 0 ≤ t.fj ∧ t.fj ≤ 4294967295) ?_
  unfold Kx
  simp only [K1, exists_eq_left, Jl, Jw]
  refine ⟨_, fun _ => rfl, fun _ h => by simp at h, fun h _ => ?_⟩
  simp [wI] at h
  exact ⟨h.1.1, h.1.2⟩
def okCm (c : Qz) : Prop := (1 ≤ c.fp ∧ c.fp ≤ 8) ∧ (1 ≤ c.fh ∧ c.fh ≤ 64) ∧ (c.fa3.length : Int) = c.fp * c.fh ∧ ∀ x ∈ c.fa3, 0 ≤ x ∧ x ≤ 4294967295
theorem IS {d s : Int} (h1 : 1 ≤ d ∧ d ≤ 8) (h2 : 1 ≤ s ∧ s ≤ 64) : 1 ≤ d * s ∧ d * s ≤ 512 := by
  have h : d = 1 ∨ d = 2 ∨ d = 3 ∨ d = 4 ∨ d = 5 ∨ d = 6 ∨ d = 7 ∨ d = 8 := by omega
  rcases h with rfl | rfl | rfl | rfl | rfl | rfl | rfl | rfl <;> omega
theorem VM (c : Qz) : ∃ v, ZP c v ∧ (v = 0 → okCm c) := by
  refine UY (Post := fun v => v = 0 → okCm c) ?_
  unfold K8
  simp only [K1, exists_eq_left, Jl, Jw, jn]
  refine ⟨_, fun _ => rfl, fun _ h => by simp at h, fun h => ?_⟩
  have h' : (1 ≤ c.fp ∧ c.fp ≤ 8) ∧ 1 ≤ c.fh ∧ c.fh ≤ 64 := by simpa [wI] using h
  have hm := IS h'.1 h'.2
  rw [Zm (by omega)]
  refine ⟨fun _ h => by simp at h, fun hl => ?_⟩
  have hl' : (c.fa3.length : Int) = c.fp * c.fh := by simpa using hl
  refine BU (by omega) (fun x => 0 ≤ x ∧ x ≤ 4294967295) ?_ ?_
  · intro j x hj hx X hX
    refine ⟨x, Vm rfl hx, fun _ h => by simp at h, fun h => hX (by simpa [wI] using h)⟩
  · intro hP _; exact ⟨h'.1, h'.2, hl', hP⟩
def okLl (c : QI) : Prop := (2 ≤ c.f5 ∧ c.f5 ≤ 8) ∧ (c.fx.length : Int) = V4 .i64 1 (IntKind.u64.wrap c.f5) ∧ c.fx.length ≤ 256 ∧ ∀ x ∈ c.fx, 0 ≤ x ∧ x ≤ 63
theorem Pw {p : Int} (h : 2 ≤ p ∧ p ≤ 8) : 4 ≤ V4 .i64 1 (IntKind.u64.wrap p) ∧ V4 .i64 1 (IntKind.u64.wrap p) ≤ 256 := by
  have h : p = 2 ∨ p = 3 ∨ p = 4 ∨ p = 5 ∨ p = 6 ∨ p = 7 ∨ p = 8 := by omega
  rcases h with rfl | rfl | rfl | rfl | rfl | rfl | rfl <;> decide
theorem Xx (c : QI) : ∃ v, K6 c v ∧ (v = 0 → okLl c) := by
  refine AJ (Post := fun v => v = 0 → okLl c) ?_
  unfold Kk
  simp only [K1, exists_eq_left, Jl, Jw, jn]
  refine ⟨fun _ h => by simp at h, fun h => ?_⟩
  have h' : 2 ≤ c.f5 ∧ c.f5 ≤ 8 := by simpa [wI] using h
  have hm := Pw h'
  refine ⟨by rw [Aa (by omega)]; omega, fun _ h => by simp at h, fun hl => ?_⟩
  have hl' : (c.fx.length : Int) = V4 .i64 1 (IntKind.u64.wrap c.f5) := by simpa using hl
  refine BU (by omega) (fun x => 0 ≤ x ∧ x ≤ 63) ?_ ?_
  · intro j x hj hx X hX
    refine ⟨x, Vm rfl hx, fun _ h => by simp at h, fun h => hX ?_⟩
    rw [Zm (by omega)] at h
    simp [wI] at h; omega
  · intro hP _; exact ⟨h', hl', by omega, hP⟩
theorem BV (l : List Q5) (k : ByteArray) (hl : l.length ≤ 1000000) : ∃ v, XE l k v ∧ -1 ≤ v ∧ v < l.length := by
  refine LF (Post := fun v => -1 ≤ v ∧ v < (l.length : Int)) ?_
  unfold Yz
  simp only [jn]
  refine BU (by omega) (fun _ => True) ?_ (fun _ => by omega)
  intro j x hj hx X hX
  exact ⟨x, Vm rfl hx, fun _ => by omega, fun _ => hX trivial⟩
def okE (e : Q5) : Prop := (1 ≤ e.f3.size ∧ e.f3.size ≤ 32) ∧ (1 ≤ e.fo ∧ e.fo ≤ 1099511627776) ∧ 0 ≤ e.fb3 ∧ e.fb3 < e.fo
def Rv (c : QW) : Prop := (1 ≤ c.fh ∧ c.fh ≤ 32) ∧ (0 ≤ c.fk ∧ c.fk ≤ 1099511627776) ∧ (c.fg.length : Int) ≤ c.fh ∧ ∀ e ∈ c.fg, okE e
theorem Yw (c : QW) : ∃ v, Kv c v ∧ (v = 0 → Rv c) := by
  refine D2 (Post := fun v => v = 0 → Rv c) ?_
  unfold KT
  simp only [K1, Xb, exists_eq_left, Jl, Jw, jn]
  refine ⟨_, fun _ => rfl, fun _ h => by simp at h, fun h => ?_⟩
  have h' : (1 ≤ c.fh ∧ c.fh ≤ 32) ∧ 0 ≤ c.fk ∧ c.fk ≤ 1099511627776 := by simpa [wI] using h
  refine ⟨fun _ h => by simp at h, fun hl => ?_⟩
  have hl' : (c.fg.length : Int) ≤ c.fh := by simpa using hl
  refine BU (by omega) okE ?_ (fun hP _ => ⟨h'.1, h'.2, hl', hP⟩)
  intro j x hj hx X hX
  refine ⟨x, Vm rfl hx, fun _ h => by simp at h, fun hk => ?_⟩
  have hk' : 1 ≤ x.f3.size ∧ x.f3.size ≤ 32 := by simpa using hk
  refine ⟨_, fun _ => rfl, fun _ h => by simp at h, fun hc => ?_⟩
  have hc1 : 1 ≤ x.fo ∧ x.fo ≤ 1099511627776 := by simp [wI] at hc; exact hc.1
  rw [Zm (by omega)] at hc
  have hc2 : 0 ≤ x.fb3 ∧ x.fb3 ≤ x.fo - 1 := by simp [wI] at hc; exact ⟨hc.2.1, by omega⟩
  obtain ⟨v, hv, _⟩ := BV (List.take (Int.toNat (j : Int)) c.fg) x.f3 (by simp; omega)
  refine ⟨⟨by omega, by omega⟩, v, hv, fun _ h => by simp at h, fun _ => ?_⟩
  by_cases h0 : j = 0
  · subst h0
    refine ⟨x, fun h => by simp at h, true, fun h => by simp at h, fun _ h => by simp at h, fun _ => hX ⟨hk', hc1, hc2.1, by omega⟩⟩
  · obtain ⟨y, hy⟩ : ∃ y, c.fg[j - 1]? = some y := ⟨c.fg[j - 1]'(by omega), by simp⟩
    refine ⟨y, fun _ => Vm (j := j - 1) (by rw [Zm (by omega)]; omega) hy, _, fun _ => rfl, fun _ h => by simp at h, fun _ => hX ⟨hk', hc1, hc2.1, by omega⟩⟩
def okFr (c : QC) : Prop := (1 ≤ c.fh ∧ c.fh ≤ 32) ∧ (0 ≤ c.fk ∧ c.fk ≤ 1099511627776) ∧ (0 ≤ c.fb2 ∧ c.fb2 ≤ 1099511627776) ∧ (c.fg.length : Int) ≤ c.fh ∧ ∀ e ∈ c.fg, okE e
theorem VN (c : QC) : ∃ v, ZQ c v ∧ (v = 0 → okFr c) := by
  refine UZ (Post := fun v => v = 0 → okFr c) ?_
  unfold K9
  simp only [K1, Xb, exists_eq_left, Jl, Jw, jn]
  refine ⟨_, fun _ => rfl, _, fun _ => rfl, fun _ h => by simp at h, fun h => ?_⟩
  have h' : ((1 ≤ c.fh ∧ c.fh ≤ 32) ∧ 0 ≤ c.fk ∧ c.fk ≤ 1099511627776) ∧ 0 ≤ c.fb2 ∧ c.fb2 ≤ 1099511627776 := by simpa [wI] using h
  refine ⟨fun _ h => by simp at h, fun hl => ?_⟩
  have hl' : (c.fg.length : Int) ≤ c.fh := by simpa using hl
  refine BU (by omega) okE ?_ (fun hP _ => ⟨h'.1.1, h'.1.2, h'.2, hl', hP⟩)
  intro j x hj hx X hX
  refine ⟨x, Vm rfl hx, fun _ h => by simp at h, fun hk => ?_⟩
  have hk' : 1 ≤ x.f3.size ∧ x.f3.size ≤ 32 := by simpa using hk
  refine ⟨fun _ h => by simp at h, fun hc => ?_⟩
  have hc1 : (1 ≤ x.fo ∧ x.fo ≤ 1099511627776) ∧ x.fb3 = 0 := by simpa [wI] using hc
  by_cases h0 : j = 0
  · subst h0
    refine ⟨x, fun h => by simp at h, fun _ h => by simp at h, fun _ => hX ⟨hk', hc1.1, by omega, by omega⟩⟩
  · obtain ⟨y, hy⟩ : ∃ y, c.fg[j - 1]? = some y := ⟨c.fg[j - 1]'(by omega), by simp⟩
    refine ⟨y, fun _ => Vm (j := j - 1) (by rw [Zm (by omega)]; omega) hy, fun _ h => by simp at h, fun _ => hX ⟨hk', hc1.1, by omega, by omega⟩⟩
def Sg (c : QK) : Prop := (2 ≤ c.fh ∧ c.fh ≤ 32 ∧ c.fh % 2 = 0) ∧ (0 ≤ c.fk ∧ c.fk ≤ 1099511627776) ∧ (0 ≤ c.fa8 ∧ c.fa8 ≤ 1099511627776) ∧ c.fw.length ≤ 41 ∧ ∀ l ∈ c.fw, (l.length : Int) < c.fh ∧ ∀ s ∈ l, 1 ≤ s.size ∧ s.size ≤ 32
theorem XS (c : QK) : ∃ v, Kc c v ∧ (v = 0 → Sg c) := by
  refine Bw (Post := fun v => v = 0 → Sg c) ?_
  unfold Ky
  simp only [K1, Xb, exists_eq_left, Jl, Jw, jn]
  refine ⟨_, fun _ => rfl, _, fun _ => rfl, fun _ h => by simp at h, fun h => ?_⟩
  have h' : (((2 ≤ c.fh ∧ c.fh ≤ 32) ∧ ¬ c.fh.tmod 2 = 1) ∧ 0 ≤ c.fk ∧ c.fk ≤ 1099511627776) ∧ 0 ≤ c.fa8 ∧ c.fa8 ≤ 1099511627776 := by simpa [wI] using h
  have he : c.fh % 2 = 0 := by have := h'.1.1.2; rw [JU (by omega)] at this; omega
  refine ⟨fun _ h => by simp at h, fun hl => ?_⟩
  have hl' : c.fw.length ≤ 41 := by simp at hl; omega
  clear h hl
  refine ZV (I := fun k s => ∃ j : Nat, s.2 = (j : Int) ∧ j ≤ c.fw.length ∧ k = c.fw.length - j ∧ ∀ i, i < j → ∀ y, c.fw[i]? = some y → (y.length : Int) < c.fh ∧ ∀ s ∈ y, 1 ≤ s.size ∧ s.size ≤ 32) ?_ (k := c.fw.length) ⟨0, rfl, by omega, by omega, fun i hi => absurd hi (by omega)⟩
  rintro k ⟨tot, i⟩ ⟨j, hj, hj1, hk, hI⟩ X hX
  simp only at hj ⊢
  subst hj
  refine ⟨fun h => ?_, fun h => ?_⟩
  · have hlt : j < c.fw.length := by simp at h; omega
    obtain ⟨L, hL⟩ : ∃ x, c.fw[j]? = some x := ⟨c.fw[j], by simp [hlt]⟩
    have hx : ix c.fw (j : Int) L := Vm rfl hL
    refine ⟨L, hx, fun _ h => by simp at h, fun h2 => ?_⟩
    have h2' : (L.length : Int) < c.fh := by simpa using h2
    refine ZV (I := fun k s => ∃ m : Nat, s = (m : Int) ∧ m ≤ L.length ∧ k = L.length - m ∧ ∀ i, i < m → ∀ y, L[i]? = some y → 1 ≤ y.size ∧ y.size ≤ 32) ?_ (k := L.length) ⟨0, rfl, by omega, by omega, fun i hi => absurd hi (by omega)⟩
    rintro k2 s ⟨m, rfl, hm1, hk2, hI2⟩ X2 hX2
    refine ⟨L, hx, fun h3 => ?_, fun h3 => ?_⟩
    · have hm : m < L.length := by simp at h3; omega
      obtain ⟨y, hy⟩ : ∃ x, L[m]? = some x := ⟨L[m], by simp [hm]⟩
      refine ⟨L, hx, y, Vm rfl hy, fun _ h => by simp at h, fun h4 => ?_⟩
      have h4' : 1 ≤ y.size ∧ y.size ≤ 32 := by simpa using h4
      refine ⟨L, fun _ => hx, y, fun _ => Vm rfl hy, L, fun _ => hx, ?_⟩
      have go : X2 (IntKind.i64.wrap ((m : Int) + 1)) := by
        rw [Zm (by omega)]
        refine hX2 (L.length - (m + 1)) _ (by omega) ⟨m + 1, by omega, by omega, rfl, fun i hi z hz => ?_⟩
        by_cases e : i = m
        · subst e; rw [hy] at hz; cases hz; exact h4'
        · exact hI2 i (by omega) z hz
      by_cases h0 : m = 0
      · subst h0
        exact ⟨y, fun h => by simp at h, fun _ h => by simp at h, fun _ => go⟩
      · obtain ⟨z, hz⟩ : ∃ z, L[m - 1]? = some z := ⟨L[m - 1]'(by omega), by simp⟩
        exact ⟨z, fun _ => Vm (j := m - 1) (by rw [Zm (by omega)]; omega) hz, fun _ h => by simp at h, fun _ => go⟩
    · have hm : m = L.length := by simp at h3; omega
      subst hm
      refine ⟨L, hx, by rw [Aa (by omega)]; omega, ?_⟩
      rw [Zm (n := (j : Int) + 1) (by omega)]
      refine hX (c.fw.length - (j + 1)) _ (by omega) ⟨j + 1, by simp, by omega, rfl, fun i hi z hz => ?_⟩
      by_cases e : i = j
      · subst e; rw [hL] at hz; cases hz
        refine ⟨h2', fun s hs => ?_⟩
        obtain ⟨i, hi⟩ := List.getElem?_of_mem hs
        have := hi
        rw [List.getElem?_eq_some_iff] at this
        exact hI2 i this.1 s hi
      · exact hI i (by omega) z hz
  · have hge : j = c.fw.length := by simp at h; omega
    have fin : Sg c := by
      refine ⟨⟨h'.1.1.1.1, h'.1.1.1.2, he⟩, h'.1.2, h'.2, hl', fun l hl => ?_⟩
      obtain ⟨i, hi⟩ := List.getElem?_of_mem hl
      have := hi
      rw [List.getElem?_eq_some_iff] at this
      exact hI i (by rw [hge]; exact this.1) l hi
    by_cases h0 : c.fw.length = 0
    · refine ⟨[], fun h => by simp [h0] at h, fun _ h => by simp at h, fun _ => ⟨fun _ h => by simp at h, fun _ _ => fin⟩⟩
    · obtain ⟨z, hz⟩ : ∃ z, c.fw[c.fw.length - 1]? = some z := ⟨c.fw[c.fw.length - 1]'(by omega), by simp⟩
      exact ⟨z, fun _ => Vm (j := c.fw.length - 1) (by rw [Zm (by omega)]; omega) hz, fun _ h => by simp at h, fun _ => ⟨fun _ h => by simp at h, fun _ _ => fin⟩⟩
theorem AI (a b : List Int) (ha : a.length ≤ 1000000) : ∃ v, V0 a b v := by
  obtain ⟨v, hv, _⟩ := Ft (Post := fun _ => True) (a0 := a) (a1 := b) (by
    unfold JZ
    simp only [jn]
    refine ⟨fun _ => trivial, fun h => ?_⟩
    have hl : a.length = b.length := by simp at h; omega
    refine BU (by omega) (fun _ => True) ?_ (fun _ => trivial)
    intro j x hj hx X hX
    obtain ⟨y, hy⟩ : ∃ y, b[j]? = some y := ⟨b[j]'(by omega), by simp⟩
    exact ⟨x, Vm rfl hx, y, Vm rfl hy, fun _ => trivial, fun _ => hX trivial⟩)
  exact ⟨v, hv⟩
theorem Us (a b : List Q5) (ha : a.length ≤ 1000000) : ∃ v, KV a b v := by
  obtain ⟨v, hv, _⟩ := D3 (Post := fun _ => True) (a0 := a) (a1 := b) (by
    unfold KU
    simp only [jn]
    refine ⟨fun _ => trivial, fun h => ?_⟩
    have hl : a.length = b.length := by simp at h; omega
    refine BU (by omega) (fun _ => True) ?_ (fun _ => trivial)
    intro j x hj hx X hX
    obtain ⟨y, hy⟩ : ∃ y, b[j]? = some y := ⟨b[j]'(by omega), by simp⟩
    exact ⟨x, Vm rfl hx, y, Vm rfl hy, fun _ => trivial, fun _ => hX trivial⟩)
  exact ⟨v, hv⟩
theorem EU (a b : QK) (ha : a.fw.length ≤ 1000000) (ha2 : ∀ l ∈ a.fw, l.length ≤ 1000000) : ∃ v, Vx a b v := by
  obtain ⟨v, hv, _⟩ := EC (Post := fun _ => True) (a0 := a) (a1 := b) (by
    unfold JC
    simp only [jn, Jw]
    refine ⟨fun _ => trivial, fun h => ?_⟩
    have hl : a.fw.length = b.fw.length := by
      have := (Bool.or_eq_false_iff.1 h).2
      simp at this; omega
    refine BU (by omega) (fun _ => True) ?_ (fun _ => trivial)
    intro j x hj hx X hX
    obtain ⟨y, hy⟩ : ∃ y, b.fw[j]? = some y := ⟨b.fw[j]'(by omega), by simp⟩
    have hxl : x.length ≤ 1000000 := ha2 x (List.mem_of_getElem? hx)
    refine ⟨x, Vm rfl hx, y, Vm rfl hy, fun _ => trivial, fun h2 => ?_⟩
    have hl2 : x.length = y.length := by simp at h2; omega
    refine ZV (I := fun k s => ∃ m : Nat, s = (m : Int) ∧ m ≤ x.length ∧ k = x.length - m) ?_ (k := x.length) ⟨0, rfl, by omega, by omega⟩
    rintro k s ⟨m, rfl, hm, hk⟩ X2 hX2
    refine ⟨x, Vm rfl hx, fun h3 => ?_, fun _ => hX trivial⟩
    have hm2 : m < x.length := by simp at h3; omega
    obtain ⟨p, hp⟩ : ∃ p, x[m]? = some p := ⟨x[m]'(by omega), by simp⟩
    obtain ⟨q, hq⟩ : ∃ q, y[m]? = some q := ⟨y[m]'(by omega), by simp⟩
    refine ⟨x, Vm rfl hx, p, Vm rfl hp, y, Vm rfl hy, q, Vm rfl hq, fun _ => trivial, fun _ => ?_⟩
    rw [Zm (by omega)]
    exact hX2 (x.length - (m + 1)) _ (by omega) ⟨m + 1, by simp, by omega, rfl⟩)
  exact ⟨v, hv⟩
def M6 (s : Qy) : Prop := s.fq.fa3.length ≤ 1000000 ∧ s.f8.fx.length ≤ 1000000 ∧ s.fb0.fg.length ≤ 1000000 ∧ s.fu.fg.length ≤ 1000000 ∧ s.f7.fw.length ≤ 1000000 ∧ ∀ l ∈ s.f7.fw, l.length ≤ 1000000
theorem Cj (a b : Qz) (ha : a.fa3.length ≤ 1000000) : ∃ v, Vp a b v := by
  obtain ⟨v, hv⟩ := AI a.fa3 b.fa3 ha
  exact ⟨_, v, fun _ => hv, rfl⟩
theorem Ek (a b : QI) (ha : a.fx.length ≤ 1000000) : ∃ v, Xy a b v := by
  obtain ⟨v, hv⟩ := AI a.fx b.fx ha
  exact ⟨_, v, fun _ => hv, rfl⟩
theorem GV (a b : QW) (ha : a.fg.length ≤ 1000000) : ∃ v, YM a b v := by
  obtain ⟨v, hv⟩ := Us a.fg b.fg ha
  exact ⟨_, v, fun _ => hv, rfl⟩
theorem Ck (a b : QC) (ha : a.fg.length ≤ 1000000) : ∃ v, Vq a b v := by
  obtain ⟨v, hv⟩ := Us a.fg b.fg ha
  exact ⟨_, v, fun _ => hv, rfl⟩
theorem IT (a b : Qy) (h : M6 a) : ∃ v, WY a b v := by
  obtain ⟨h1, h2, h3, h4, h5, h6⟩ := h
  obtain ⟨v1, e1⟩ := Cj a.fq b.fq h1
  obtain ⟨v2, e2⟩ := Ek a.f8 b.f8 h2
  obtain ⟨v3, e3⟩ := GV a.fb0 b.fb0 h3
  obtain ⟨v4, e4⟩ := Ck a.fu b.fu h4
  obtain ⟨v5, e5⟩ := EU a.f7 b.f7 h5 h6
  exact ⟨_, v1, fun _ => e1, v2, fun _ => e2, v3, fun _ => e3, v4, fun _ => e4, v5, fun _ => e5, rfl⟩
theorem IV (s : Qy) : ∃ v, YN s v := by
  unfold YN Al
  simp only [jn]
  generalize s.fa.ff = k
  by_cases k1 : k = 1
  · subst k1; exact ⟨_, fun _ => rfl, fun h => by simp at h⟩
  have e1 : (k == 1) = false := by simp [k1]
  by_cases k2 : k = 2
  · subst k2; exact ⟨_, fun h => by simp at h, fun _ => ⟨fun _ => rfl, fun h => by simp at h⟩⟩
  have e2 : (k == 2) = false := by simp [k2]
  by_cases k3 : k = 3
  · subst k3; exact ⟨_, fun h => by simp at h, fun _ => ⟨fun h => by simp at h, fun _ => ⟨fun _ => rfl, fun h => by simp at h⟩⟩⟩
  have e3 : (k == 3) = false := by simp [k3]
  by_cases k4 : k = 4
  · subst k4; exact ⟨_, fun h => by simp at h, fun _ => ⟨fun h => by simp at h, fun _ => ⟨fun h => by simp at h, fun _ => ⟨fun _ => rfl, fun h => by simp at h⟩⟩⟩⟩
  have e4 : (k == 4) = false := by simp [k4]
  by_cases k5 : k = 5
  · subst k5; exact ⟨_, fun h => by simp at h, fun _ => ⟨fun h => by simp at h, fun _ => ⟨fun h => by simp at h, fun _ => ⟨fun h => by simp at h, fun _ => ⟨fun _ => rfl, fun h => by simp at h⟩⟩⟩⟩⟩
  have e5 : (k == 5) = false := by simp [k5]
  by_cases k6 : k = 6
  · subst k6; exact ⟨_, fun h => by simp at h, fun _ => ⟨fun h => by simp at h, fun _ => ⟨fun h => by simp at h, fun _ => ⟨fun h => by simp at h, fun _ => ⟨fun h => by simp at h, fun _ => ⟨fun _ => rfl, fun h => by simp at h⟩⟩⟩⟩⟩⟩
  have e6 : (k == 6) = false := by simp [k6]
  simp only [e1, e2, e3, e4, e5, e6]
  exact ⟨_, fun h => by simp at h, fun _ => ⟨fun h => by simp at h, fun _ => ⟨fun h => by simp at h, fun _ => ⟨fun h => by simp at h, fun _ => ⟨fun h => by simp at h, fun _ => ⟨fun h => by simp at h, fun _ => rfl⟩⟩⟩⟩⟩⟩
theorem Ab (s : Qy) (h : M6 s) : ∃ v, JE s v ∧ (v = 0 → 1 ≤ s.fa.ff ∧ s.fa.ff ≤ 6) := by
  refine EE (Post := fun v => v = 0 → 1 ≤ s.fa.ff ∧ s.fa.ff ≤ 6) (a0 := s) (by
    unfold JD
    simp only [jn]
    refine ⟨_, Xc s.fa, fun h e => by simp [e] at h, fun hpar => ?_⟩
    have hk : 1 ≤ s.fa.ff ∧ s.fa.ff ≤ 6 := by
      have hp : WJ s.fa.ff s.fa.fh s.fa.fp s.fa.fv = 0 := by simpa using hpar
      unfold WJ at hp; grind
    obtain ⟨v12, e12⟩ := IV s
    obtain ⟨v13, e13⟩ := IT s v12 h
    obtain ⟨v1, e1, _⟩ := XR s.f0
    obtain ⟨v2, e2, _⟩ := VM s.fq
    obtain ⟨v3, e3, _⟩ := Xx s.f8
    obtain ⟨v4, e4, _⟩ := Yw s.fb0
    obtain ⟨v5, e5, _⟩ := VN s.fu
    obtain ⟨v6, e6, _⟩ := XS s.f7
    refine ⟨fun _ => ⟨v1, e1, ?_⟩, fun _ => ⟨fun _ => ⟨v2, e2, ?_⟩, fun _ => ⟨fun _ => ⟨v3, e3, ?_⟩, fun _ => ⟨fun _ => ⟨v4, e4, ?_⟩, fun _ => ⟨fun _ => ⟨v5, e5, ?_⟩, fun _ => ⟨fun _ => ⟨v6, e6, ?_⟩, fun _ => ?_⟩⟩⟩⟩⟩⟩
    all_goals exact ⟨fun _ _ => hk, fun _ => ⟨v12, fun _ => e12, v13, fun _ => e13, fun _ _ => hk, fun _ _ => hk⟩⟩)
theorem Ca (x : Int) : 0 ≤ IntKind.u64.wrap x ∧ IntKind.u64.wrap x ≤ 18446744073709551615 := by rw [IntKind.wrap_u64]; omega
theorem Dn (a : Int) : ∃ v, Wi a v ∧ 0 ≤ v ∧ v ≤ 18446744073709551615 := ⟨_, rfl, Ca _⟩
theorem MW (a b : Int) : ∃ v, Ao a b v := by
  obtain ⟨v, hv, _⟩ := Dn (YF .u64 (a) (IntKind.u64.wrap ((IntKind.u64.wrap ((IntKind.u64.wrap (b)) + (1))) * (15074714826142052245))))
  exact ⟨v, v, hv, rfl⟩
theorem El (a : Int) : ∃ r, Y0 a r ∧ r.length = 256 := by
  refine Iv (Post := fun r => r.length = 256) ?_
  unfold XZ
  simp only [jn]
  refine ZV (I := fun k s => (s.1.length : Int) = s.2 - 1 ∧ 1 ≤ s.2 ∧ s.2 ≤ 257 ∧ k = (257 - s.2).toNat) ?_ (k := 256) ⟨rfl, by decide, by decide, rfl⟩
  rintro k ⟨r, i⟩ ⟨h1, h2, h3, hk⟩ X hX
  simp only at h1 h2 h3 hk ⊢
  refine ⟨fun h => ?_, fun h => ?_⟩
  · have hi : i ≤ 256 := by simpa using h
    obtain ⟨v, hv, _⟩ := Dn (IntKind.u64.wrap ((a) + (IntKind.u64.wrap ((i) * (11400714819323198485)))))
    refine ⟨v, hv, by simp; omega, ?_⟩
    rw [Aa (by omega)]
    exact hX (257 - (i + 1)).toNat _ (by omega) ⟨by simp; omega, by simp only; omega, by simp only; omega, rfl⟩
  · have hi : ¬ i ≤ 256 := by simpa using h
    omega
theorem Fg (l : List Int) (s : ByteArray) (hl : l.length = 256) (hs : s.size ≤ 1000000) : ∃ v, YC l s v ∧ 0 ≤ v.1 ∧ v.1 ≤ 18446744073709551615 := by
  refine LL (Post := fun v => 0 ≤ v.1 ∧ v.1 ≤ 18446744073709551615) ?_
  unfold YB
  simp only [jn]
  refine ⟨fun _ => by decide, fun _ => ?_⟩
  obtain ⟨v, hv, _⟩ := Kg (l := l) (n := (s.size : Int) % 256) (by omega) (by omega)
  refine ⟨v, by rw [JU (by omega)]; exact hv, ?_⟩
  refine ZV (I := fun k s' => ∃ j : Nat, s'.2 = (j : Int) ∧ j ≤ s.size ∧ k = s.size - j) ?_ (k := s.size) ⟨0, rfl, by omega, by omega⟩
  rintro k ⟨h, i⟩ ⟨j, hj, hj1, hk⟩ X hX
  simp only at hj ⊢
  subst hj
  refine ⟨fun h => ?_, fun _ => ?_⟩
  · have hj2 : j < s.size := by simp at h; omega
    have hb := BJ hj2
    have hc : 0 ≤ BI s j ∧ BI s j ≤ 255 := by
      unfold BI; rw [dif_pos hj2]; have := (s[j]).toNat_lt; omega
    rw [Zm (n := (j : Int) + 1) (by omega)]
    have w : IntKind.i64.wrap (IntKind.i64.wrap (BI s j) + (j : Int)) = BI s j + j := by rw [Zm (n := BI s j) (by omega), Zm (by omega)]
    obtain ⟨v2, hv2, _⟩ := Kg (l := l) (n := (BI s j + j) % 256) (by omega) (by omega)
    refine ⟨BI s j, hb, v2, by rw [w, JU (by omega)]; exact hv2, ?_⟩
    exact hX (s.size - (j + 1)) _ (by omega) ⟨j + 1, by simp, by omega, rfl⟩
  · obtain ⟨m, hm, h0, h1⟩ := Dn h
    exact ⟨m, hm, h0, h1⟩
theorem Hq (a b c : Int) (s : ByteArray) : ∃ v, Yf a b c s v ∧ (0 ≤ b ∧ b ≤ 7 → 1 ≤ c ∧ c ≤ 64 → 0 ≤ v.1 ∧ v.1 < c) := by
  refine Hb (Post := fun v => 0 ≤ b ∧ b ≤ 7 → 1 ≤ c ∧ c ≤ 64 → 0 ≤ v.1 ∧ v.1 < c) ?_
  unfold Xn
  simp only [K1, Xb, exists_eq_left, Jw]
  refine ⟨_, fun _ => rfl, fun _ _ h => (show 0 ≤ (0 : Int) ∧ (0 : Int) < c by omega), fun h => ⟨fun _ _ h => (show 0 ≤ (0 : Int) ∧ (0 : Int) < c by omega), fun h2 => ?_⟩⟩
  have h' : (0 ≤ b ∧ b ≤ 7) ∧ 1 ≤ c ∧ c ≤ 64 := by simpa [wI] using h
  have h2' : 1 ≤ s.size ∧ s.size ≤ 32 := by simpa using h2
  obtain ⟨v6, e6⟩ := MW a b
  obtain ⟨v7, e7, l7⟩ := El v6
  obtain ⟨v8, e8, h80, h81⟩ := Fg v7 s l7 (by omega)
  refine ⟨v6, e6, v7, e7, v8, e8, by rw [Aa (by omega)]; omega, fun _ _ => ?_⟩
  show 0 ≤ IntKind.i64.wrap (v8.1.tmod (IntKind.u64.wrap c)) ∧ IntKind.i64.wrap (v8.1.tmod (IntKind.u64.wrap c)) < c
  rw [Aa (n := c) (by omega), JU h80]
  have m0 := Int.emod_nonneg v8.1 (b := c) (by omega)
  have m1 := Int.emod_lt_of_pos v8.1 (b := c) (by omega)
  rw [Zm (by omega)]
  exact ⟨m0, m1⟩
theorem Ay (a b c : Int) : ∃ v, XK a b c v := by
  unfold XK Dc
  cases h : (bif decide ((DL a 0) > (DL c 0)) then true else decide ((DL b 0) > (IntKind.i64.wrap ((DL c 0) - (DL a 0)))))
  · refine ⟨(IntKind.i64.wrap ((DL a 0) + (DL b 0)), false), _, rfl, _, rfl, _, rfl, ?_⟩; exact ⟨fun h2 => (by rw [h] at h2; cases h2), fun _ => rfl⟩
  · refine ⟨(DL c 0, true), _, rfl, _, rfl, _, rfl, ?_⟩; exact ⟨fun _ => rfl, fun h2 => (by rw [h] at h2; cases h2)⟩
theorem XT (a b : Int) : ∃ v, Jo a b v := by
  obtain ⟨v, hv⟩ := Ay a b 1099511627776
  exact ⟨_, v, hv, rfl⟩
theorem Ki (x : Qh) : ∃ v, Zl x v ∧ (v = 0 → (1 ≤ x.f3.size ∧ x.f3.size ≤ 32) ∧ 1 ≤ x.f4 ∧ x.f4 ≤ 4294967295) :=
  ⟨_, WV x, fun h => by unfold FN at h; grind⟩
theorem Ba (c : Qz) (x : Qh) : ∃ v, KQ c x v ∧ v.1.fa3.length ≤ 1000 := by
  refine AP (Post := fun v => v.1.fa3.length ≤ 1000) ?_
  unfold Kn
  simp only [jn]
  obtain ⟨v2, e2, ok⟩ := VM c
  obtain ⟨v4, e4, ok4⟩ := Ki x
  refine ⟨v2, e2, fun _ => by simp, fun h2 => ⟨v4, e4, fun _ => by simp, fun h4 => ?_⟩⟩
  obtain ⟨hd, hs, hl, hx⟩ := ok (by simpa using h2)
  have hm := IS hd hs
  refine ⟨by omega, ?_⟩
  refine ZV (I := fun k s => 0 ≤ s.1 ∧ s.1 ≤ c.fp ∧ k = (c.fp - s.1).toNat ∧ s.2.1.length = c.fa3.length) ?_ (k := c.fp.toNat) ⟨by simp, by simp only; omega, by simp, rfl⟩
  rintro k ⟨i, l, f⟩ ⟨h0, h1, hk, hlen⟩ X hX
  simp only at h0 h1 hk hlen ⊢
  refine ⟨fun h => ?_, fun _ => by omega⟩
  have hi : i < c.fp := by simpa using h
  obtain ⟨v, hv, hr⟩ := Hq c.fv i c.fh x.f3
  obtain ⟨r0, r1⟩ := hr (by omega) hs
  have p1 : 0 ≤ i * c.fh := Int.mul_nonneg h0 (by omega)
  have p2 : (i + 1) * c.fh ≤ c.fp * c.fh := Int.mul_le_mul_of_nonneg_right (by omega) (by omega)
  rw [Int.add_mul, Int.one_mul] at p2
  have w : IntKind.i64.wrap (IntKind.i64.wrap (i * c.fh) + v.1) = i * c.fh + v.1 := by rw [Zm (n := i * c.fh) (by omega), Zm (by omega)]
  obtain ⟨y, hy, _⟩ := Kg (l := l) (n := i * c.fh + v.1) (by omega) (by omega)
  obtain ⟨z, hz⟩ := Ay y x.f4 4294967295
  refine ⟨i * c.fh + v.1, ⟨v, hv, w.symm⟩, y, hy, z, hz, y, hy, ?_⟩
  rw [Zm (by omega)]
  exact hX (c.fp - (i + 1)).toNat _ (by omega) ⟨by simp only; omega, by simp only; omega, rfl, by simpa using hlen⟩
theorem shr_p {p v : Int} (hp : 2 ≤ p ∧ p ≤ 8) (h0 : 0 ≤ v) (h1 : v ≤ 18446744073709551615) : 0 ≤ QR .u64 v (IntKind.u64.wrap (IntKind.i64.wrap (64 - p))) ∧ QR .u64 v (IntKind.u64.wrap (IntKind.i64.wrap (64 - p))) < V4 .i64 1 (IntKind.u64.wrap p) := by
  have h : p = 2 ∨ p = 3 ∨ p = 4 ∨ p = 5 ∨ p = 6 ∨ p = 7 ∨ p = 8 := by omega
  have hd : ∀ m : Int, 0 < m → v.fdiv m = v / m := fun m hm => Int.fdiv_eq_ediv_of_nonneg v (by omega)
  rcases h with rfl | rfl | rfl | rfl | rfl | rfl | rfl
  · have e1 : IntKind.u64.wrap (IntKind.i64.wrap (64 - 2)) = 62 := by decide
    have e2 : V4 .i64 1 (IntKind.u64.wrap 2) = 4 := by decide
    rw [e1, e2]; show 0 ≤ v.fdiv 4611686018427387904 ∧ v.fdiv 4611686018427387904 < 4; rw [hd _ (by decide)]; omega
  · have e1 : IntKind.u64.wrap (IntKind.i64.wrap (64 - 3)) = 61 := by decide
    have e2 : V4 .i64 1 (IntKind.u64.wrap 3) = 8 := by decide
    rw [e1, e2]; show 0 ≤ v.fdiv 2305843009213693952 ∧ v.fdiv 2305843009213693952 < 8; rw [hd _ (by decide)]; omega
  · have e1 : IntKind.u64.wrap (IntKind.i64.wrap (64 - 4)) = 60 := by decide
    have e2 : V4 .i64 1 (IntKind.u64.wrap 4) = 16 := by decide
    rw [e1, e2]; show 0 ≤ v.fdiv 1152921504606846976 ∧ v.fdiv 1152921504606846976 < 16; rw [hd _ (by decide)]; omega
  · have e1 : IntKind.u64.wrap (IntKind.i64.wrap (64 - 5)) = 59 := by decide
    have e2 : V4 .i64 1 (IntKind.u64.wrap 5) = 32 := by decide
    rw [e1, e2]; show 0 ≤ v.fdiv 576460752303423488 ∧ v.fdiv 576460752303423488 < 32; rw [hd _ (by decide)]; omega
  · have e1 : IntKind.u64.wrap (IntKind.i64.wrap (64 - 6)) = 58 := by decide
    have e2 : V4 .i64 1 (IntKind.u64.wrap 6) = 64 := by decide
    rw [e1, e2]; show 0 ≤ v.fdiv 288230376151711744 ∧ v.fdiv 288230376151711744 < 64; rw [hd _ (by decide)]; omega
  · have e1 : IntKind.u64.wrap (IntKind.i64.wrap (64 - 7)) = 57 := by decide
    have e2 : V4 .i64 1 (IntKind.u64.wrap 7) = 128 := by decide
    rw [e1, e2]; show 0 ≤ v.fdiv 144115188075855872 ∧ v.fdiv 144115188075855872 < 128; rw [hd _ (by decide)]; omega
  · have e1 : IntKind.u64.wrap (IntKind.i64.wrap (64 - 8)) = 56 := by decide
    have e2 : V4 .i64 1 (IntKind.u64.wrap 8) = 256 := by decide
    rw [e1, e2]; show 0 ≤ v.fdiv 72057594037927936 ∧ v.fdiv 72057594037927936 < 256; rw [hd _ (by decide)]; omega
theorem FF (p a : Int) (s : ByteArray) (hp : 2 ≤ p ∧ p ≤ 8) : ∃ v, Xh p a s v ∧ 0 ≤ v.1 ∧ v.1 < V4 .i64 1 (IntKind.u64.wrap p) := by
  have hs4 := Pw hp
  refine Fx (Post := fun v => 0 ≤ v.1 ∧ v.1 < V4 .i64 1 (IntKind.u64.wrap p)) ?_
  unfold V2
  simp only [K1, Xb, exists_eq_left, jn]
  refine ⟨fun _ => by omega, fun _ => ⟨fun _ => by omega, fun h2 => ?_⟩⟩
  have h2' : 1 ≤ s.size ∧ s.size ≤ 32 := by simpa using h2
  obtain ⟨v5, e5, l5⟩ := El a
  obtain ⟨v6, e6, h60, h61⟩ := Fg v5 s l5 (by omega)
  refine ⟨v5, e5, v6, e6, ?_⟩
  have sh := shr_p hp h60 h61
  refine ZV (I := fun k s => -1 ≤ s.2 ∧ s.2 ≤ 63 ∧ k = (s.2 + 1).toNat) ?_ (k := (64 - p).toNat) ⟨by simp only; rw [Zm (by omega)]; omega, by simp only; rw [Zm (by omega)]; omega, by simp only; rw [Zm (by omega)]; omega⟩
  rintro k ⟨n, i⟩ ⟨h0, h1, hk⟩ X hX
  simp only at h0 h1 hk ⊢
  refine ⟨fun h => by rw [Aa (by simp at h; omega)]; simp at h; omega, fun h => ?_, fun h => ?_⟩
  · have hi : 0 ≤ i := by
      cases hd : decide (i ≥ 0) with
      | true => simpa using hd
      | false => rw [hd] at h; cases h
    rw [Zm (n := i - 1) (by omega)]
    exact hX (i - 1 + 1).toNat _ (by omega) ⟨by simp only; omega, by simp only; omega, rfl⟩
  · refine ⟨by rw [Aa (by rw [Zm (by omega)]; omega), Zm (by omega)]; omega, ?_⟩
    rw [Zm (n := QR .u64 v6.1 _) (by omega)]
    exact sh
theorem Cl (c : QI) (x : Qh) : ∃ v, Js c x v ∧ v.1.fx.length ≤ 1000 := by
  refine Cg (Post := fun v => v.1.fx.length ≤ 1000) ?_
  unfold KM
  obtain ⟨v2, e2, ok⟩ := Xx c
  obtain ⟨v4, e4, ok4⟩ := Ki x
  refine ⟨v2, e2, fun _ => by simp, fun h2 => ⟨v4, e4, fun _ => by simp, fun h4 => ?_⟩⟩
  obtain ⟨hp, hl, hlen, hx⟩ := ok (by simpa using h2)
  obtain ⟨v5, e5, h50, h51⟩ := FF c.f5 c.fv x.f3 hp
  obtain ⟨y, hy, _⟩ := Kg (l := c.fx) (n := v5.1) h50 (by omega)
  exact ⟨v5, e5, by omega, y, hy, y, hy, by simp; omega⟩
theorem Do (t : QS) (x : Qh) : ∃ v, JN t x v := by
  obtain ⟨v, hv, _⟩ := Dd (Post := fun _ => True) (a0 := t) (a1 := x) (by
    unfold J0
    obtain ⟨v2, e2, ok⟩ := XR t
    obtain ⟨v4, e4, ok4⟩ := Ki x
    obtain ⟨a1, h1⟩ := Ay t.fk x.f4 4294967295
    obtain ⟨a2, h2⟩ := Ay t.fj 1 4294967295
    exact ⟨v2, e2, fun _ => trivial, fun _ => ⟨v4, e4, fun _ => trivial, fun _ => ⟨_, ⟨a1, h1, a2, h2, rfl⟩, trivial⟩⟩⟩)
  exact ⟨v, hv⟩
theorem Yx {α : Type} {l : List α} {j : Nat} (h : j < l.length) : ∃ x, ix l (j : Int) x := by
  obtain ⟨x, hx, _⟩ := Kg (l := l) (n := (j : Int)) (by omega) (by omega)
  exact ⟨x, hx⟩
theorem IW (c : QW) (h : c.fg.length ≤ 1000) : ∃ v, YO c v := by
  obtain ⟨v, hv, _⟩ := Iw (Post := fun _ => True) (a0 := c) (by
    unfold Y1
    simp only [Jw]
    refine ⟨fun _ => trivial, fun h2 => ?_⟩
    have h0 : c.fg.length ≠ 0 := by
      intro e; rw [e] at h2; simp at h2
    rw [Zm (by omega)]
    obtain ⟨x, hx, _⟩ := Kg (l := c.fg) (n := (c.fg.length : Int) - 1) (by omega) (by omega)
    exact ⟨x, hx, trivial⟩)
  exact ⟨v, hv⟩
theorem BW (l : List Q5) (hl : l.length ≤ 1000) : ∃ r, WG l r ∧ r.length ≤ 1000 := by
  refine LN (Post := fun r => r.length ≤ 1000) ?_
  unfold YD
  simp only [jn]
  refine ZV (I := fun k s => ∃ j : Nat, s.2 = (j : Int) ∧ j ≤ l.length ∧ k = l.length - j ∧ s.1.length = j) ?_ (k := l.length) ⟨0, rfl, by omega, by omega, rfl⟩
  rintro k ⟨a, i⟩ ⟨j, hj, hj1, hk, ha⟩ X hX
  simp only at hj ha ⊢
  subst hj
  refine ⟨fun h => ?_, fun _ => by omega⟩
  have hj2 : j < l.length := by simp at h; omega
  obtain ⟨x, hx⟩ := Yx hj2
  refine ⟨x, hx, by simp; omega, ?_⟩
  have w0 : IntKind.i64.wrap (((a ++ [x]).length : Int) - 1) = (j : Int) := by simp [ha]; rw [Zm (by omega)]
  rw [w0]
  refine ZV (I := fun k s => ∃ m : Nat, s.2 = (m : Int) ∧ m ≤ j ∧ k = m ∧ s.1.length = j + 1) ?_ (k := j) ⟨j, rfl, by omega, rfl, by simp [ha]⟩
  rintro k2 ⟨b, i2⟩ ⟨m, hm, hm1, hk2, hb⟩ X2 hX2
  simp only at hm hb ⊢
  subst hm
  have done : X (b, IntKind.i64.wrap ((j : Int) + 1)) := by
    rw [Zm (by omega)]
    exact hX (l.length - (j + 1)) _ (by omega) ⟨j + 1, by simp, by omega, rfl, hb⟩
  by_cases h0 : m = 0
  · subst h0
    exact ⟨x, fun h => by simp at h, x, fun h => by simp at h, false, fun h => by simp at h, fun h => by simp at h, fun _ => done⟩
  · obtain ⟨p, hp⟩ := Yx (l := b) (j := m) (by omega)
    obtain ⟨q, hq⟩ := Yx (l := b) (j := m - 1) (by omega)
    have wm : IntKind.i64.wrap ((m : Int) - 1) = ((m - 1 : Nat) : Int) := by rw [Zm (by omega)]; omega
    obtain ⟨z, hz⟩ := Yx (l := List.set b (Int.toNat (m : Int)) q) (j := m - 1) (by simp; omega)
    rw [wm]
    refine ⟨p, fun _ => hp, q, fun _ => hq, _, fun _ => rfl, fun _ => ⟨q, hq, p, hp, p, hp, z, hz, ?_⟩, fun _ => done⟩
    exact hX2 (m - 1) _ (by omega) ⟨m - 1, rfl, by omega, rfl, by simpa using hb⟩
theorem EV (c : QW) (x : Qh) : ∃ v, VB c x v ∧ v.1.fg.length ≤ 1000 := by
  refine EK (Post := fun v => v.1.fg.length ≤ 1000) ?_
  unfold JH
  simp only [jn]
  obtain ⟨v2, e2, ok⟩ := Yw c
  obtain ⟨v4, e4, ok4⟩ := Ki x
  refine ⟨v2, e2, fun _ => by simp, fun h2 => ⟨v4, e4, fun _ => by simp, fun h4 => ?_⟩⟩
  obtain ⟨hs, ht, hl, hx⟩ := ok (by simpa using h2)
  obtain ⟨v6, e6⟩ := XT c.fk x.f4
  obtain ⟨v7, e7, h70, h71⟩ := BV c.fg x.f3 (by omega)
  refine ⟨by omega, v6, e6, v7, e7, fun h => ?_, fun h => ⟨fun h3 => ?_, fun h3 => ?_⟩⟩
  · have h' : 0 ≤ v7 := by simpa using h
    obtain ⟨y, hy, _⟩ := Kg (l := c.fg) (n := v7) h' h71
    obtain ⟨z, hz⟩ := XT y.fo x.f4
    obtain ⟨r, hr, hr2⟩ := BW (List.set c.fg (Int.toNat v7) (Q5.mk (y.f3) (z.1) (y.fb3))) (by simp; omega)
    exact ⟨y, hy, z, hz, y, hy, r, hr, hr2⟩
  · obtain ⟨r, hr, hr2⟩ := BW (c.fg ++ [Q5.mk (x.f3) (x.f4) (0)]) (by simp; omega)
    exact ⟨by simp; omega, r, hr, hr2⟩
  · have h3' : c.fh ≤ c.fg.length := by simpa using h3
    obtain ⟨v13, e13⟩ := IW c (by omega)
    obtain ⟨v14, e14⟩ := XT v13 x.f4
    have w : IntKind.i64.wrap ((c.fg.length : Int) - 1) = (c.fg.length : Int) - 1 := Zm (by omega)
    obtain ⟨y, hy, _⟩ := Kg (l := c.fg) (n := (c.fg.length : Int) - 1) (by omega) (by omega)
    rw [w]
    obtain ⟨r, hr, hr2⟩ := BW (List.set c.fg (Int.toNat ((c.fg.length : Int) - 1)) (Q5.mk (x.f3) (v14.1) (Yd (v13) (IntKind.i64.wrap ((v14.1) - (1)))))) (by simp; omega)
    exact ⟨v13, e13, v14, e14, y, hy, r, hr, hr2⟩
theorem Em (l : List Q5) (x : Q5) (hl : l.length ≤ 900) : ∃ r, Y3 l x r ∧ r.length ≤ 1000 := by
  refine Iy (Post := fun r => r.length ≤ 1000) ?_
  unfold Y2
  simp only [jn]
  refine ZV (I := fun k s => ∃ j : Nat, s.2.2 = (j : Int) ∧ j ≤ l.length ∧ k = l.length - j ∧ s.1.length ≤ j + (if s.2.1 = true then 1 else 0)) ?_ (k := l.length) ⟨0, rfl, by omega, by omega, by simp⟩
  rintro k ⟨a, f, i⟩ ⟨j, hj, hj1, hk, ha⟩ X hX
  simp only at hj ha ⊢
  subst hj
  have hf : (if f = true then 1 else 0 : Nat) ≤ 1 := by cases f <;> simp
  refine ⟨fun h => ?_, fun h => ⟨fun _ => ⟨by simp; omega, by simp; omega⟩, fun _ => by omega⟩⟩
  have hj2 : j < l.length := by simp at h; omega
  obtain ⟨y, hy⟩ := Yx hj2
  refine ⟨y, fun _ => hy, fun h2 => ⟨by simp; omega, y, hy, by simp; omega, ?_⟩, fun h2 => ⟨y, hy, by simp; omega, ?_⟩⟩
  · rw [Zm (by omega)]
    have hff : f = false := by cases f <;> simp_all
    subst hff
    refine hX (l.length - (j + 1)) _ (by omega) ⟨j + 1, by simp, by omega, rfl, ?_⟩
    simp at ha ⊢; omega
  · rw [Zm (by omega)]
    refine hX (l.length - (j + 1)) _ (by omega) ⟨j + 1, by simp, by omega, rfl, ?_⟩
    simp; omega
theorem IX (l : List Q5) (n : Int) (hl : l.length ≤ 900) : ∃ r, YP l n r ∧ r.length ≤ l.length := by
  refine Iz (Post := fun r => r.length ≤ l.length) ?_
  unfold Y4
  simp only [jn]
  refine ZV (I := fun k s => ∃ j : Nat, s.2 = (j : Int) ∧ j ≤ l.length ∧ k = l.length - j ∧ s.1.length ≤ j) ?_ (k := l.length) ⟨0, rfl, by omega, by omega, by simp⟩
  rintro k ⟨a, i⟩ ⟨j, hj, hj1, hk, ha⟩ X hX
  simp only at hj ha ⊢
  subst hj
  refine ⟨fun h => ?_, fun _ => by omega⟩
  have hj2 : j < l.length := by simp at h; omega
  obtain ⟨y, hy⟩ := Yx hj2
  rw [Zm (by omega)]
  refine ⟨y, hy, fun _ => ⟨y, hy, y, hy, by simp; omega, ?_⟩, fun _ => ?_⟩
  · exact hX (l.length - (j + 1)) _ (by omega) ⟨j + 1, by simp, by omega, rfl, by simp; omega⟩
  · exact hX (l.length - (j + 1)) _ (by omega) ⟨j + 1, by simp, by omega, rfl, by simp only; omega⟩
theorem Be (c : QC) (x : Qh) : ∃ v, KR c x v ∧ v.1.fg.length ≤ 1000 := by
  refine AR (Post := fun v => v.1.fg.length ≤ 1000) ?_
  unfold Ko
  simp only [jn]
  obtain ⟨v2, e2, ok⟩ := VN c
  obtain ⟨v4, e4, ok4⟩ := Ki x
  refine ⟨v2, e2, fun _ => by simp, fun h2 => ⟨v4, e4, fun _ => by simp, fun h4 => ?_⟩⟩
  obtain ⟨hs, ht, hlo, hl, hx⟩ := ok (by simpa using h2)
  obtain ⟨v6, e6⟩ := XT c.fk x.f4
  obtain ⟨v7, e7, h70, h71⟩ := BV c.fg x.f3 (by omega)
  refine ⟨by omega, v6, e6, v7, e7, fun h => ?_, fun h => ⟨fun h3 => ?_, fun h3 => ?_⟩⟩
  · have h' : 0 ≤ v7 := by simpa using h
    obtain ⟨y, hy, _⟩ := Kg (l := c.fg) (n := v7) h' h71
    obtain ⟨z, hz⟩ := XT y.fo x.f4
    exact ⟨y, hy, z, hz, y, hy, by simp; omega⟩
  · obtain ⟨r, hr, hr2⟩ := Em c.fg (Q5.mk (x.f3) (x.f4) (0)) (by omega)
    exact ⟨r, hr, hr2⟩
  · refine ZV (I := fun k s => ∃ j : Nat, s.2.1 = (j : Int) ∧ j ≤ c.fg.length ∧ k = c.fg.length - j ∧ s.2.2 = c.fg) ?_ (k := c.fg.length) ⟨0, rfl, by omega, by omega, rfl⟩
    rintro k ⟨n, i, l⟩ ⟨j, hj, hj1, hk, hl2⟩ X hX
    simp only at hj hl2 ⊢
    subst hj; subst hl2
    refine ⟨fun h => ?_, fun _ => ?_⟩
    · have hj2 : j < c.fg.length := by simp at h; omega
      obtain ⟨y, hy⟩ := Yx hj2
      refine ⟨y, hy, ?_⟩
      rw [Zm (by omega)]
      exact hX (c.fg.length - (j + 1)) _ (by omega) ⟨j + 1, by simp, by omega, rfl, rfl⟩
    · obtain ⟨v18, e18, l18⟩ := IX c.fg n (by omega)
      obtain ⟨v19, e19⟩ := XT c.fb2 n
      obtain ⟨r, hr, hr2⟩ := Em v18 (Q5.mk (x.f3) (IntKind.i64.wrap ((x.f4) - n)) (0)) (by omega)
      exact ⟨v18, e18, v19, e19, fun _ => ⟨r, hr, hr2⟩, fun _ => (show v18.length ≤ 1000 by omega)⟩
theorem Hr (w : Int) : ∃ r, Yg w r ∧ r.length ≤ 63 ∧ ∀ x ∈ r, 0 ≤ x ∧ x ≤ 62 := by
  refine Hd (Post := fun r => r.length ≤ 63 ∧ ∀ x ∈ r, 0 ≤ x ∧ x ≤ 62) ?_
  unfold Xo
  simp only [jn]
  refine ZV (I := fun k s => ∃ j : Nat, s.2 = (j : Int) ∧ j ≤ 63 ∧ k = 63 - j ∧ s.1.length ≤ j ∧ ∀ x ∈ s.1, 0 ≤ x ∧ x ≤ 62) ?_ (k := 63) ⟨0, rfl, by omega, by omega, by simp, by simp⟩
  rintro k ⟨a, i⟩ ⟨j, hj, hj1, hk, ha, hx⟩ X hX
  simp only at hj ha hx ⊢
  subst hj
  refine ⟨fun h => ?_, fun _ => ⟨by omega, hx⟩⟩
  have hj2 : j < 63 := by
    cases hd : decide ((j : Int) < 63) with
    | true => simp at hd; omega
    | false => rw [hd] at h; cases h
  rw [Zm (by omega)]
  refine ⟨by rw [Aa (by omega)]; omega, fun _ => ⟨by simp; omega, ?_⟩, fun _ => ?_⟩
  · refine hX (63 - (j + 1)) _ (by omega) ⟨j + 1, by simp, by omega, rfl, by simp; omega, ?_⟩
    intro x hx2
    rcases List.mem_append.1 hx2 with h | h
    · exact hx x h
    · simp at h; omega
  · exact hX (63 - (j + 1)) _ (by omega) ⟨j + 1, by simp, by omega, rfl, by simp only; omega, hx⟩
theorem Hs (l : List ByteArray) (hl : l.length ≤ 1000000) : ∃ r, Xq l r ∧ r.length = l.length := by
  refine Hf (Post := fun r => r.length = l.length) ?_
  unfold Xp
  simp only [jn]
  refine ZV (I := fun k s => ∃ j : Nat, s.2 = (j : Int) ∧ j ≤ l.length ∧ k = l.length - j ∧ s.1.length = j) ?_ (k := l.length) ⟨0, rfl, by omega, by omega, rfl⟩
  rintro k ⟨a, i⟩ ⟨j, hj, hj1, hk, ha⟩ X hX
  simp only at hj ha ⊢
  subst hj
  refine ⟨fun h => ?_, fun h => by simp at h; omega⟩
  have hj2 : j < l.length := by simp at h; omega
  obtain ⟨x, hx⟩ := Yx hj2
  refine ⟨x, hx, by simp; omega, ?_⟩
  have w0 : IntKind.i64.wrap (((a ++ [x]).length : Int) - 1) = (j : Int) := by simp [ha]; rw [Zm (by omega)]
  rw [w0]
  refine ZV (I := fun k s => ∃ m : Nat, s.2 = (m : Int) ∧ m ≤ j ∧ k = m ∧ s.1.length = j + 1) ?_ (k := j) ⟨j, rfl, by omega, rfl, by simp [ha]⟩
  rintro k2 ⟨b, i2⟩ ⟨m, hm, hm1, hk2, hb⟩ X2 hX2
  simp only at hm hb ⊢
  subst hm
  have done : X (b, IntKind.i64.wrap ((j : Int) + 1)) := by
    rw [Zm (by omega)]
    exact hX (l.length - (j + 1)) _ (by omega) ⟨j + 1, by simp, by omega, rfl, hb⟩
  by_cases h0 : m = 0
  · subst h0
    exact ⟨x, fun h => by simp at h, x, fun h => by simp at h, fun h => by simp at h, fun _ => done⟩
  · obtain ⟨p, hp⟩ := Yx (l := b) (j := m) (by omega)
    obtain ⟨q, hq⟩ := Yx (l := b) (j := m - 1) (by omega)
    have wm : IntKind.i64.wrap ((m : Int) - 1) = ((m - 1 : Nat) : Int) := by rw [Zm (by omega)]; omega
    obtain ⟨z, hz⟩ := Yx (l := List.set b (Int.toNat (m : Int)) q) (j := m - 1) (by simp; omega)
    rw [wm]
    refine ⟨p, fun _ => hp, q, fun _ => hq, fun _ => ⟨q, hq, p, hp, p, hp, z, hz, ?_⟩, fun _ => done⟩
    exact hX2 (m - 1) _ (by omega) ⟨m - 1, rfl, by omega, rfl, by simpa using hb⟩
theorem tdiv8 {a : Int} (h : 0 ≤ a) : a.tdiv 8 = a / 8 := Int.tdiv_eq_ediv_of_nonneg h
theorem MX (l : List Int) (p : Int) (hl : l.length ≤ 1000000) (h1 : p ≤ 4611686018427387904) (h2 : -4611686018427387904 ≤ p) : ∃ v, Wk l p v ∧ 0 ≤ v ∧ v ≤ 1 := by
  refine MK (Post := fun v => 0 ≤ v ∧ v ≤ 1) ?_
  unfold Wj
  simp only [bA1, Jw]
  refine ⟨fun _ => by omega, fun h => ?_⟩
  have h0 : 0 ≤ p := by
    cases hd : decide (p < 0) with
    | false => simpa using hd
    | true => rw [hd] at h; cases h
  have hw : IntKind.i64.wrap (p.tdiv 8) = p / 8 := by rw [tdiv8 h0, Zm (by omega)]
  rw [hw] at h ⊢
  have h3 : p / 8 < l.length := by
    have := (Bool.or_eq_false_iff.1 h).2
    simpa using this
  obtain ⟨x, hx, _⟩ := Kg (l := l) (n := p / 8) (by omega) h3
  refine ⟨x, hx, ?_, by omega⟩
  rw [JU h0, Zm (by omega), Aa (by omega)]; omega
theorem Ht (a0 : List (List ByteArray)) (a1 a2 : Int) (a3 : List Int) (a4 : Int) (h0 : a0.length ≤ 1000) (hM : ∀ l ∈ a0, l.length ≤ 1000) (h3 : a3.length ≤ 1000000) (h4 : 0 ≤ a4 ∧ a4 ≤ 1073741824) :
    ∃ r, Yh a0 a1 a2 a3 a4 r ∧ r.1.length ≤ 3000 ∧ ∀ l ∈ r.1, l.length ≤ 3000 := by
  refine Hh (Post := fun r => r.1.length ≤ 3000 ∧ ∀ l ∈ r.1, l.length ≤ 3000) ?_
  unfold Xr
  simp only [jn]
  have trim : ∀ (sl po : Int) (out : List (List ByteArray)), out.length ≤ 3000 → (∀ l ∈ out, l.length ≤ 3000) →
      lp (fun (X24 : (List (List ByteArray)) → Prop) (s24 : (List (List ByteArray))) => ∃ (v26 : (List ByteArray)), ((decide ((((s24).length : Int)) > (0))) = true → ix (s24) (IntKind.i64.wrap ((((s24).length : Int)) - (1))) v26) ∧ ((((bif decide ((((s24).length : Int)) > (0)) then ((((v26).length : Int)) == (0)) else false)) = true → ((0 : Int) ≤ (IntKind.i64.wrap ((((s24).length : Int)) - (1))) ∧ (IntKind.i64.wrap ((((s24).length : Int)) - (1)) : Int) ≤ ((s24).length : Int)) ∧ X24 ((List.take (Int.toNat (IntKind.i64.wrap ((((s24).length : Int)) - (1)))) (s24)))) ∧ (((bif decide ((((s24).length : Int)) > (0)) then ((((v26).length : Int)) == (0)) else false)) = false → s24.length ≤ 3000 ∧ ∀ l ∈ s24, l.length ≤ 3000))) out := by
    intro sl po out ho hl
    refine ZV (I := fun k s => s.length ≤ 3000 ∧ (∀ l ∈ s, l.length ≤ 3000) ∧ k = s.length) ?_ (k := out.length) ⟨ho, hl, rfl⟩
    rintro k s ⟨hs, hl, hk⟩ X hX
    by_cases hz : s.length = 0
    · refine ⟨[], fun h => by simp [hz] at h, fun h => by simp [hz] at h, fun _ => ⟨hs, hl⟩⟩
    · have w : IntKind.i64.wrap ((s.length : Int) - 1) = ((s.length - 1 : Nat) : Int) := by rw [Zm (by omega)]; omega
      rw [w]
      obtain ⟨x, hx⟩ := Yx (l := s) (j := s.length - 1) (by omega)
      refine ⟨x, fun _ => hx, fun _ => ⟨by omega, ?_⟩, fun _ => ⟨hs, hl⟩⟩
      refine hX (s.length - 1) _ (by omega) ⟨by simp; omega, fun l h => hl l (List.mem_of_mem_take h), by simp⟩
  refine ZV (I := fun k s => ∃ i : Nat, s.2.2.2.2 = (i : Int) ∧ s.2.2.2.1.length ≤ 1000 ∧ i + s.2.2.2.1.length ≤ a0.length + 1000 ∧ s.2.2.1.length = i ∧ (∀ l ∈ s.2.2.1, l.length ≤ 3000) ∧ (a4 ≤ s.2.1 ∧ s.2.1 ≤ a4 + i) ∧ k = (a0.length - i) * 1001 + s.2.2.2.1.length) ?_ (k := a0.length * 1001) ⟨0, rfl, by simp, by simp, rfl, by simp, by simp, by simp⟩
  rintro k ⟨sl, po, out, carry, i'⟩ ⟨i, hi, hc, hic, hout, hlen, hpo, hk⟩ X hX
  simp only at hi hc hic hout hlen hpo hk ⊢
  subst hi
  refine ⟨fun h => ?_, fun _ => trim sl po out (by omega) hlen⟩
  have tail : ∀ merged : List ByteArray, merged.length ≤ 2000 → (i < a0.length ∨ (merged.length = carry.length ∧ 0 < carry.length)) →
      ∃ v9, Xq merged v9 ∧ ((decide ((v9.length : Int) < a1) = true → (out.length + [v9].length) * 24 ≤ 140737488355328 ∧ X (sl, po, out ++ [v9], [], IntKind.i64.wrap ((i : Int) + 1))) ∧
        (decide ((v9.length : Int) < a1) = false → ∃ v13, Wk a3 po v13 ∧
          lp (fun (X14 : (List (List ByteArray)) × (List ByteArray) × (List ByteArray) × Int → Prop) (s14 : (List (List ByteArray)) × (List ByteArray) × (List ByteArray) × Int) => (((decide ((s14.2.2.2) < (IntKind.i64.wrap ((IntKind.i64.wrap ((((v9).length : Int)).tdiv (2))) * (2))))) = true → ∃ (v17 : ByteArray), ix (s14.2.2.1) (s14.2.2.2) v17 ∧ (((s14.2.1).length + ([(v17)]).length) * 16 ≤ 140737488355328) ∧ X14 ((s14.1), ((s14.2.1) ++ ([(v17)])), (s14.2.2.1), (IntKind.i64.wrap ((s14.2.2.2) + (2))))) ∧ ((decide ((s14.2.2.2) < (IntKind.i64.wrap ((IntKind.i64.wrap ((((v9).length : Int)).tdiv (2))) * (2))))) = false →
            ((0 : Int) ≤ (IntKind.u64.wrap (i : Int))) ∧ ∃ (v20 : Int × Bool), Jo sl (V4 .i64 (1) (IntKind.u64.wrap (i : Int))) v20 ∧ ((0 : Int) ≤ (IntKind.i64.wrap ((IntKind.i64.wrap ((((v9).length : Int)).tdiv (2))) * (2))) ∧ (IntKind.i64.wrap ((IntKind.i64.wrap ((((v9).length : Int)).tdiv (2))) * (2)) : Int) ≤ (((List.map eS (s14.2.2.1)).length : Nat) : Int)) ∧ (((s14.1).length + ([(List.take ((List.map eS (s14.2.2.1)).length - Int.toNat (IntKind.i64.wrap ((IntKind.i64.wrap ((((v9).length : Int)).tdiv (2))) * (2)))) (List.drop (0 + Int.toNat (IntKind.i64.wrap ((IntKind.i64.wrap ((((v9).length : Int)).tdiv (2))) * (2)))) (s14.2.2.1)))]).length) * 24 ≤ 140737488355328) ∧ X ((v20.1), (IntKind.i64.wrap (po + (1))), ((s14.1) ++ ([(List.take ((List.map eS (s14.2.2.1)).length - Int.toNat (IntKind.i64.wrap ((IntKind.i64.wrap ((((v9).length : Int)).tdiv (2))) * (2)))) (List.drop (0 + Int.toNat (IntKind.i64.wrap ((IntKind.i64.wrap ((((v9).length : Int)).tdiv (2))) * (2)))) (s14.2.2.1)))])), (s14.2.1), IntKind.i64.wrap ((i : Int) + 1))))) (out, ([] : (List ByteArray)), v9, v13))) := by
    intro merged hm hpr
    obtain ⟨v9, e9, l9⟩ := Hs merged (by omega)
    have hw1 : IntKind.i64.wrap ((i : Int) + 1) = ((i + 1 : Nat) : Int) := by rw [Zm (by omega)]; omega
    have ht : (v9.length : Int).tdiv 2 = ((v9.length / 2 : Nat) : Int) := by rw [Int.tdiv_eq_ediv_of_nonneg (by omega)]; omega
    have hw2 : IntKind.i64.wrap (IntKind.i64.wrap ((v9.length : Int).tdiv 2) * 2) = ((v9.length / 2 * 2 : Nat) : Int) := by
      rw [ht, Zm (n := ((v9.length / 2 : Nat) : Int)) (by omega), Zm (by omega)]; omega
    have hmeas : ∀ c : Nat, c ≤ v9.length / 2 → (a0.length - (i + 1)) * 1001 + c < k ∧ i + 1 + c ≤ a0.length + 1000 ∧ c ≤ 1000 := by
      intro c hcc
      rcases hpr with h | ⟨h, h'⟩
      · refine ⟨?_, by omega, by omega⟩
        have : a0.length - i = (a0.length - (i + 1)) + 1 := by omega
        rw [hk, this, Nat.add_mul]; omega
      · have hle : a0.length - (i + 1) ≤ a0.length - i := by omega
        have hle2 := Nat.mul_le_mul_right 1001 hle
        refine ⟨by omega, by omega, by omega⟩
    refine ⟨v9, e9, ?_⟩
    rw [hw1, hw2]
    refine ⟨fun h => ⟨by simp; omega, ?_⟩, fun h => ?_⟩
    · obtain ⟨m1, m2, m3⟩ := hmeas 0 (by omega)
      refine hX _ _ m1 ⟨i + 1, rfl, by simp, by simpa using m2, by simp [hout], ?_, by simp only; omega, rfl⟩
      intro l hl
      rcases List.mem_append.1 hl with h | h
      · exact hlen l h
      · simp at h; rw [h]; omega
    · obtain ⟨v13, e13, b0, b1⟩ := MX a3 po h3 (by omega) (by omega)
      refine ⟨v13, e13, ?_⟩
      refine ZV (I := fun k s => ∃ h : Nat, s.1 = out ∧ s.2.1.length = h ∧ s.2.2.1 = v9 ∧ s.2.2.2 = v13 + 2 * (h : Int) ∧ h ≤ v9.length / 2 ∧ k = v9.length / 2 - h) ?_ (k := v9.length / 2) ⟨0, rfl, rfl, rfl, by simp, by omega, by omega⟩
      rintro k14 ⟨o, half, v, kk⟩ ⟨nh, ho, hh, hv, hkk, hle, hk14⟩ X14 hX14
      simp only at ho hh hv hkk ⊢
      subst ho; subst hv
      refine ⟨fun hlt => ?_, fun hge => ?_⟩
      · have hlt' : kk < ((v.length / 2 * 2 : Nat) : Int) := by simpa using hlt
        obtain ⟨y, hy, _⟩ := Kg (l := v) (n := kk) (by omega) (by omega)
        refine ⟨y, hy, by simp; omega, ?_⟩
        rw [Zm (by omega)]
        exact hX14 (v.length / 2 - (nh + 1)) _ (by omega) ⟨nh + 1, rfl, by simp [hh], rfl, by simp only; omega, by omega, rfl⟩
      · obtain ⟨v20, e20⟩ := XT sl (V4 .i64 (1) (IntKind.u64.wrap (i : Int)))
        refine ⟨(Ca _).1, v20, e20, ⟨by omega, by simp; omega⟩, by simp; omega, ?_⟩
        rw [Zm (n := po + 1) (by omega)]
        obtain ⟨m1, m2, m3⟩ := hmeas half.length (by omega)
        refine hX _ _ m1 ⟨i + 1, rfl, m3, m2, by simp [hout], ?_, by simp only; omega, rfl⟩
        intro l hl
        rcases List.mem_append.1 hl with h | h
        · exact hlen l h
        · simp only [List.mem_singleton] at h; rw [h, List.length_take, List.length_drop]; omega
  refine ⟨fun h2 => ?_, fun h2 => ?_⟩
  · have hi2 : i < a0.length := by simp at h2; omega
    obtain ⟨x, hx, hg⟩ := Kg (l := a0) (n := (i : Int)) (by omega) (by omega)
    have hxl : x.length ≤ 1000 := hM x (List.mem_of_getElem? hg)
    exact ⟨x, hx, by omega, by omega, tail (x ++ carry) (by simp; omega) (.inl hi2)⟩
  · have hi2 : ¬ i < a0.length := by simp at h2; omega
    have hcp : 0 < carry.length := by
      rw [h2] at h; simp at h
      rcases Nat.eq_zero_or_pos carry.length with h' | h'
      · simp_all
      · exact h'
    exact tail carry (by omega) (.inr ⟨rfl, hcp⟩)
theorem Dp (c : QK) (x : Qh) (a2 : List Int) (a3 : Int) (h3 : a2.length ≤ 1000000) : ∃ v, JO c x a2 a3 v ∧ v.1.fw.length ≤ 3000 ∧ ∀ l ∈ v.1.fw, l.length ≤ 3000 := by
  refine Dg (Post := fun v => v.1.fw.length ≤ 3000 ∧ ∀ l ∈ v.1.fw, l.length ≤ 3000) ?_
  unfold Ja
  simp only [jn]
  obtain ⟨v2, e2, ok⟩ := XS c
  obtain ⟨v4, e4, ok4⟩ := Ki x
  refine ⟨v2, e2, fun _ => by simp, fun h2 => ⟨v4, e4, fun _ => by simp, fun h4 => ⟨_, rfl, fun _ => by simp, fun h5 => ?_⟩⟩⟩
  obtain ⟨hs, ht, hsl, hll, hx⟩ := ok (by simpa using h2)
  have hp : 0 ≤ a3 ∧ a3 ≤ 1073741824 := by
    rw [Jl] at h5; simpa using h5
  obtain ⟨v7, e7⟩ := XT c.fk x.f4
  have hlev : ∀ l ∈ c.fw, l.length ≤ 100 := fun l hl => by have := (hx l hl).1; omega
  refine ⟨v7, e7, fun _ => ⟨(show c.fw.length ≤ 3000 by omega), fun l hl => by have := hlev l hl; omega⟩, fun _ => ⟨by omega, ?_⟩⟩
  obtain ⟨v10, e10, l10, r10⟩ := Hr x.f4
  refine ⟨v10, e10, ?_⟩
  refine ZV (I := fun k s => ∃ j : Nat, s.2.2 = (j : Int) ∧ j ≤ v10.length ∧ s.2.1 = v10 ∧ k = v10.length - j ∧ s.1.length ≤ 200 ∧ ∀ l ∈ s.1, l.length ≤ 100 + j) ?_ (k := v10.length) ⟨0, rfl, by omega, rfl, by omega, by simp only; omega, by simpa using hlev⟩
  rintro k ⟨L, P, i⟩ ⟨j, hj, hj1, hP, hk, hL, hLl⟩ X hX
  simp only at hj hP hL hLl ⊢
  subst hj; subst hP
  refine ⟨fun h => ?_, fun _ => ?_⟩
  · have hj2 : j < P.length := by simp at h; omega
    obtain ⟨q, hq, hqg⟩ := Kg (l := P) (n := (j : Int)) (by omega) (by omega)
    have hqr := r10 q (List.mem_of_getElem? hqg)
    refine ZV (I := fun k s => s.2 = P ∧ s.1.length ≤ 200 ∧ (∀ l ∈ s.1, l.length ≤ 100 + j) ∧ k = 201 - s.1.length) ?_ (k := 201 - L.length) ⟨rfl, hL, hLl, rfl⟩
    rintro k2 ⟨L2, P2⟩ ⟨hP2, hL2, hL2l, hk2⟩ X2 hX2
    simp only at hP2 hL2 hL2l hk2 ⊢
    subst hP2
    refine ⟨q, hq, fun h => ⟨by simp; omega, ?_⟩, fun h => ?_⟩
    · have h' : (L2.length : Int) ≤ q := by simpa using h
      refine hX2 (201 - (L2 ++ [[]]).length) _ (by simp; omega) ⟨rfl, by simp; omega, fun l hl => ?_, rfl⟩
      rcases List.mem_append.1 hl with h | h
      · exact hL2l l h
      · simp at h; rw [h]; simp
    · have h' : q < L2.length := by simpa using h
      obtain ⟨y, hy, hyg⟩ := Kg (l := L2) (n := q) (by omega) h'
      have hyl := hL2l y (List.mem_of_getElem? hyg)
      refine ⟨q, hq, q, hq, y, hy, by omega, by simp; omega, y, hy, ?_⟩
      rw [Zm (by omega)]
      refine hX (P2.length - (j + 1)) _ (by omega) ⟨j + 1, by simp, by omega, rfl, rfl, by simpa using hL2, fun l hl => ?_⟩
      rcases List.mem_or_eq_of_mem_set hl with h | h
      · have := hL2l l h; omega
      · rw [h]; simp; omega
  · obtain ⟨v26, e26, a26, b26⟩ := Ht L c.fh c.fa8 a2 a3 (by omega) (fun l hl => by have := hLl l hl; omega) h3 hp
    exact ⟨v26, e26, a26, b26⟩
def zSk : Qy := Qy.mk (Qr.mk (0) (0) (0) (0)) (QS.mk (0) (0) (false)) (Qz.mk (0) (0) (0) ([] : (List Int)) (false)) (QI.mk (0) (0) ([] : (List Int))) (QW.mk (0) (0) ([] : (List Q5)) (false)) (QC.mk (0) (0) (0) ([] : (List Q5)) (false)) (QK.mk (0) (0) (0) ([] : (List (List ByteArray))) (false))
theorem IY : M6 zSk := by simp [M6, zSk]
theorem GW (s : Qy) (x : Qh) (a2 : List Int) (a3 : Int) (h : M6 s) (h2 : a2.length ≤ 1000000) : ∃ v, XM s x a2 a3 v ∧ M6 v.1 := by
  refine GA (Post := fun v => M6 v.1) ?_
  unfold VC
  simp only [jn]
  obtain ⟨v2, e2, _⟩ := Ab s h
  obtain ⟨v4, e4, _⟩ := Ki x
  obtain ⟨z1, z2, z3, z4, z5, z6⟩ := h
  refine ⟨v2, e2, fun _ => IY, fun _ => ⟨v4, e4, fun _ => IY, fun _ => ⟨_, rfl, fun _ => IY, fun _ => ?_⟩⟩⟩
  obtain ⟨u1, t1⟩ := Do s.f0 x
  obtain ⟨u2, t2, q2⟩ := Ba s.fq x
  obtain ⟨u3, t3, q3⟩ := Cl s.f8 x
  obtain ⟨u4, t4, q4⟩ := EV s.fb0 x
  obtain ⟨u5, t5, q5⟩ := Be s.fu x
  obtain ⟨u6, t6, q6, q7⟩ := Dp s.f7 x a2 a3 h2
  refine ⟨fun _ => ⟨u1, t1, z1, z2, z3, z4, z5, z6⟩, fun _ => ⟨fun _ => ⟨u2, t2, ?_, z2, z3, z4, z5, z6⟩, fun _ => ⟨fun _ => ⟨u3, t3, z1, ?_, z3, z4, z5, z6⟩, fun _ => ⟨fun _ => ⟨u4, t4, z1, z2, ?_, z4, z5, z6⟩, fun _ => ⟨fun _ => ⟨u5, t5, z1, z2, z3, ?_, z5, z6⟩, fun _ => ⟨u6, t6, z1, z2, z3, z4, ?_, ?_⟩⟩⟩⟩⟩⟩
  · simp only; omega
  · simp only; omega
  · simp only; omega
  · simp only; omega
  · simp only; omega
  · intro l hl; have := q7 l hl; omega
theorem Dq (a b d : Int) : ∃ v, JL a b d v ∧ v.1.fa3.length ≤ 1000 := by
  refine D8 (Post := fun v => v.1.fa3.length ≤ 1000) ?_
  unfold KY
  simp only [K1, exists_eq_left, Jw]
  refine ⟨_, fun _ => rfl, fun _ => by simp, fun h => ?_⟩
  have h' : (1 ≤ a ∧ a ≤ 8) ∧ 1 ≤ b ∧ b ≤ 64 := by simpa [wI] using h
  have hm := IS h'.1 h'.2
  rw [Zm (by omega)]
  exact ⟨⟨by omega, by omega⟩, by simp; omega⟩
theorem EW (a b : Int) : ∃ v, VA a b v ∧ v.1.fx.length ≤ 1000 := by
  refine EH (Post := fun v => v.1.fx.length ≤ 1000) ?_
  unfold JG
  simp only [K1, exists_eq_left]
  refine ⟨fun _ => by simp, fun h => ?_⟩
  have h' : 2 ≤ a ∧ a ≤ 8 := by simpa [wI] using h
  have hm := Pw h'
  exact ⟨(Ca _).1, ⟨by omega, by omega⟩, by simp; omega⟩
theorem Hu (a : Int) : ∃ v, Ye a v ∧ v.1.fg.length ≤ 1000 := by
  refine H9 (Post := fun v => v.1.fg.length ≤ 1000) ?_
  unfold Xm
  simp only [K1, exists_eq_left]
  exact ⟨fun _ => by simp, fun _ => by simp⟩
theorem Dr (a : Int) : ∃ v, JM a v ∧ v.1.fg.length ≤ 1000 := by
  refine Da (Post := fun v => v.1.fg.length ≤ 1000) ?_
  unfold KZ
  simp only [K1, exists_eq_left]
  exact ⟨fun _ => by simp, fun _ => by simp⟩
theorem FG (a : Int) : ∃ v, Xg a v ∧ v.1.fw = [] := by
  refine Fu (Post := fun v => v.1.fw = []) ?_
  unfold V1
  simp only [K1, exists_eq_left]
  exact ⟨fun _ => by simp, fun _ => by simp⟩
theorem M7 (p : Qr) : ∃ v, WF p v ∧ M6 v.1 := by
  refine LJ (Post := fun v => M6 v.1) ?_
  unfold YA
  simp only [jn]
  obtain ⟨u2, t2, q2⟩ := Dq p.fp p.fh p.fv
  obtain ⟨u3, t3, q3⟩ := EW p.fh p.fv
  obtain ⟨u4, t4, q4⟩ := Hu p.fh
  obtain ⟨u5, t5, q5⟩ := Dr p.fh
  obtain ⟨u6, t6, q6⟩ := FG p.fh
  refine ⟨_, Xc p, fun _ => IY, fun _ => ⟨fun _ => ⟨u2, t2, ?_⟩, fun _ => ⟨fun _ => ⟨u3, t3, ?_⟩, fun _ => ⟨fun _ => ⟨u4, t4, ?_⟩, fun _ => ⟨fun _ => ⟨u5, t5, ?_⟩, fun _ => ⟨fun _ => ⟨u6, t6, ?_⟩, fun _ => ?_⟩⟩⟩⟩⟩⟩ <;> simp [M6] <;> try omega
  rw [q6]; simp
theorem M8 (p : Qr) (l : List Qh) (cs : List Int) (hl : l.length ≤ 1000000) (hc : cs.length ≤ 1000000) : ∃ s, WH p l cs s ∧ M6 s := by
  refine LP (Post := fun s => M6 s) ?_
  unfold YE
  simp only [jn]
  obtain ⟨v1, e1, z⟩ := M7 p
  refine ⟨v1, e1, ?_⟩
  refine ZV (I := fun k s => ∃ j : Nat, s.2.1 = (j : Int) ∧ j ≤ l.length ∧ k = l.length - j ∧ M6 (Qy.mk (Qr.mk (s.2.2.1) (s.2.2.2.1) (s.2.2.2.2.1) (s.2.2.2.2.2.1)) (QS.mk (s.2.2.2.2.2.2.1) (s.2.2.2.2.2.2.2.1) (s.2.2.2.2.2.2.2.2.1)) (Qz.mk (s.2.2.2.2.2.2.2.2.2.1) (s.2.2.2.2.2.2.2.2.2.2.1) (s.2.2.2.2.2.2.2.2.2.2.2.1) (s.2.2.2.2.2.2.2.2.2.2.2.2.1) (s.2.2.2.2.2.2.2.2.2.2.2.2.2.1)) (QI.mk (s.2.2.2.2.2.2.2.2.2.2.2.2.2.2.1) (s.2.2.2.2.2.2.2.2.2.2.2.2.2.2.2.1) (s.2.2.2.2.2.2.2.2.2.2.2.2.2.2.2.2.1)) (QW.mk (s.2.2.2.2.2.2.2.2.2.2.2.2.2.2.2.2.2.1) (s.2.2.2.2.2.2.2.2.2.2.2.2.2.2.2.2.2.2.1) (s.2.2.2.2.2.2.2.2.2.2.2.2.2.2.2.2.2.2.2.1) (s.2.2.2.2.2.2.2.2.2.2.2.2.2.2.2.2.2.2.2.2.1)) (QC.mk (s.2.2.2.2.2.2.2.2.2.2.2.2.2.2.2.2.2.2.2.2.2.1) (s.2.2.2.2.2.2.2.2.2.2.2.2.2.2.2.2.2.2.2.2.2.2.1) (s.2.2.2.2.2.2.2.2.2.2.2.2.2.2.2.2.2.2.2.2.2.2.2.1) (s.2.2.2.2.2.2.2.2.2.2.2.2.2.2.2.2.2.2.2.2.2.2.2.2.1) (s.2.2.2.2.2.2.2.2.2.2.2.2.2.2.2.2.2.2.2.2.2.2.2.2.2.1)) (QK.mk (s.2.2.2.2.2.2.2.2.2.2.2.2.2.2.2.2.2.2.2.2.2.2.2.2.2.2.1) (s.2.2.2.2.2.2.2.2.2.2.2.2.2.2.2.2.2.2.2.2.2.2.2.2.2.2.2.1) (s.2.2.2.2.2.2.2.2.2.2.2.2.2.2.2.2.2.2.2.2.2.2.2.2.2.2.2.2.1) (s.2.2.2.2.2.2.2.2.2.2.2.2.2.2.2.2.2.2.2.2.2.2.2.2.2.2.2.2.2.1) (s.2.2.2.2.2.2.2.2.2.2.2.2.2.2.2.2.2.2.2.2.2.2.2.2.2.2.2.2.2.2)))) ?_ (k := l.length) ⟨0, rfl, by omega, by omega, z⟩
  rintro k s ⟨j, hj, hj1, hk, hz⟩ X hX
  rw [hj]
  refine ⟨fun h => ?_, fun _ => hz⟩
  have hj2 : j < l.length := by simp at h; omega
  obtain ⟨x, hx⟩ := Yx hj2
  obtain ⟨v7, e7, z7⟩ := GW _ x cs s.1 hz hc
  refine ⟨x, hx, v7, e7, ?_⟩
  rw [Zm (by omega)]
  exact hX (l.length - (j + 1)) _ (by omega) ⟨j + 1, by simp, by omega, rfl, z7⟩
theorem Hv (l : List Int) (hl : l.length ≤ 4611686018427387904) : ∃ s, Yi l s ∧ M6 s := by
  refine Hj (Post := fun s => M6 s) ?_
  unfold Xs
  simp only [bA7]
  obtain ⟨v1, e1, _⟩ := U4 l 0 hl (by omega) (by omega)
  obtain ⟨v2, e2, _⟩ := CI v1
  obtain ⟨v4, e4, _⟩ := U4 l 1 hl (by omega) (by omega)
  obtain ⟨v5, e5, l5, _⟩ := Ei (List.drop (Int.toNat (Yd (((l).length : Int)) (2))) l) (v4 % 8) (by simp; omega) (by omega) (by omega)
  obtain ⟨v6, e6, _⟩ := U4 l 9 hl (by omega) (by omega)
  obtain ⟨v7, e7, l7⟩ := Ej v6
  obtain ⟨v8, e8, z8⟩ := M8 v2 v5 v7 (by omega) (by omega)
  exact ⟨v1, e1, v2, e2, ⟨by unfold Yd; split <;> omega, by unfold Yd; split <;> omega⟩, v4, e4, v5, e5, v6, e6, v7, e7, v8, e8, z8⟩
theorem Zs (a : Int) (h : a < 18446744073709551616) : ∃ r, QV a r ∧ r.length ≤ 9 := by
  refine LE (Post := fun r => r.length ≤ 9) ?_
  unfold XC
  simp only [jn, shr8]
  refine ⟨fun _ => by simp, fun _ => ?_⟩
  refine ZV (I := fun k s => s.2.length ≤ 8 ∧ k = 8 - s.2.length ∧ s.1 < 256 ^ (8 - s.2.length)) ?_ (k := 8) ⟨by simp, by simp, by simpa using h⟩
  rintro k ⟨x, l⟩ ⟨hl, hk, hx⟩ X hX
  simp only at hl hk hx ⊢
  refine ⟨fun hp => ?_, fun _ => ⟨by simp; omega, by simp; omega⟩⟩
  have hp' : 0 < x := by simpa using hp
  have hl7 : l.length < 8 := by
    rcases Nat.lt_or_ge l.length 8 with h | h
    · exact h
    · have : l.length = 8 := by omega
      rw [this] at hx; simp at hx; omega
  refine ⟨by simp; omega, hX (8 - ([IntKind.u8.wrap x] ++ l).length) _ (by simp; omega) ⟨by simp; omega, rfl, ?_⟩⟩
  have e : 8 - l.length = (8 - ([IntKind.u8.wrap x] ++ l).length) + 1 := by simp; omega
  rw [e, Int.pow_succ] at hx
  generalize (256 : Int) ^ (8 - ([IntKind.u8.wrap x] ++ l).length) = M at hx ⊢
  show x / 256 < M
  omega
theorem FH (l : List Int) (hl : l.length ≤ 4611686018427387904) : ∃ r, Jn l r := by
  obtain ⟨v, hv, _⟩ := Fq (Post := fun _ => True) (a0 := l) (by
    unfold Jm
    simp only [jn]
    refine ZV (I := fun k s => ∃ j : Nat, s.2.2 = (j : Int) ∧ j ≤ l.length ∧ k = l.length - j) ?_ (k := l.length) ⟨0, rfl, by omega, by omega⟩
    rintro k ⟨a, b, i⟩ ⟨j, hj, hj1, hk⟩ X hX
    simp only at hj ⊢
    subst hj
    refine ⟨fun h => ?_, fun _ => trivial⟩
    have hj2 : j < l.length := by simp at h; omega
    obtain ⟨x, hx⟩ := Yx hj2
    refine ⟨x, hx, ?_⟩
    rw [Zm (by omega)]
    exact hX (l.length - (j + 1)) _ (by omega) ⟨j + 1, by simp, by omega, rfl⟩)
  exact ⟨v, hv⟩
theorem Eo (t : Int) (l : List Int) : ∃ r, Zw t l r ∧ r.1.length ≤ l.length + 14 := by
  refine Ir (Post := fun r => r.1.length ≤ l.length + 14) ?_
  unfold VW
  refine ⟨fun _ => by simp, fun h => ?_⟩
  have h' : (l.length : Int) ≤ 1048576 := by simpa using h
  obtain ⟨v2, e2, l2⟩ := Zs (l.length : Int) (by omega)
  obtain ⟨v5, e5⟩ := FH (([t] ++ v2) ++ l) (by simp; omega)
  exact ⟨v2, e2, by simp; omega, by simp; omega, v5, e5, by simp; omega, by simp; omega⟩
theorem WN (b : Bool) : ∃ r, V7 b r ∧ r.length = 1 := by
  refine LG (Post := fun r => r.length = 1) ?_
  exact ⟨fun _ => rfl, fun _ => rfl⟩
theorem Fh (a : Int) : ∃ r, V8 a r ∧ r.length ≤ 8 := by
  refine LH (Post := fun r => r.length ≤ 8) ?_
  unfold XG
  simp only [jn]
  refine ZV (I := fun k s => -1 ≤ s.2 ∧ (s.1.length : Int) = 7 - s.2 ∧ k = (s.2 + 1).toNat) ?_ (k := 8) ⟨by decide, rfl, rfl⟩
  rintro k ⟨l, i⟩ ⟨h0, h1, hk⟩ X hX
  simp only at h0 h1 hk ⊢
  refine ⟨fun h => ?_, fun h => by simp at h; omega⟩
  have hi : 0 ≤ i := by simpa using h
  refine ⟨(Ca _).1, by simp; omega, ?_⟩
  rw [Zm (n := i - 1) (by omega)]
  exact hX (i - 1 + 1).toNat _ (by omega) ⟨by simp only; omega, by simp; omega, rfl⟩
theorem BX (s : ByteArray) (h : s.size ≤ 32) : ∃ r, K2 s r ∧ r.length ≤ 41 := by
  refine LI (Post := fun r => r.length ≤ 41) ?_
  unfold XH
  obtain ⟨v, e, l⟩ := Zs (s.size : Int) (by omega)
  have hs : (sI s).length = s.size := Vr s
  exact ⟨v, e, by omega, by simp; omega⟩
theorem Dt (t : QS) : ∃ r, JJ t r ∧ r.1.length ≤ 60000 := by
  refine D4 (Post := fun r => r.1.length ≤ 60000) ?_
  unfold KW
  obtain ⟨v2, e2, ok⟩ := XR t
  refine ⟨v2, e2, fun _ => by simp, fun h2 => ?_⟩
  have ok := ok (by simpa using h2)
  obtain ⟨v3, e3, l3⟩ := Zs t.fk (by omega)
  obtain ⟨v4, e4, l4⟩ := Zs t.fj (by omega)
  obtain ⟨v6, e6, l6⟩ := WN t.fc
  exact ⟨v3, e3, v4, e4, by omega, v6, e6, by simp; omega, by simp; omega⟩
theorem Bf (c : Qz) : ∃ r, KO c r ∧ r.1.length ≤ 60000 := by
  refine AK (Post := fun r => r.1.length ≤ 60000) ?_
  unfold Kl
  simp only [jn]
  obtain ⟨v2, e2, ok⟩ := VM c
  refine ⟨v2, e2, fun _ => by simp, fun h2 => ?_⟩
  obtain ⟨hd, hs, hl, hx⟩ := ok (by simpa using h2)
  have hm := IS hd hs
  obtain ⟨v3, e3, l3⟩ := Zs c.fp (by omega)
  obtain ⟨v4, e4, l4⟩ := Zs c.fh (by omega)
  obtain ⟨v6, e6, l6⟩ := Fh c.fv
  refine ⟨v3, e3, v4, e4, by omega, v6, e6, by simp; omega, ?_⟩
  refine ZV (I := fun k s => ∃ j : Nat, s.2 = (j : Int) ∧ j ≤ c.fa3.length ∧ k = c.fa3.length - j ∧ s.1.length ≤ 26 + 9 * j) ?_ (k := c.fa3.length) ⟨0, rfl, by omega, by omega, by simp; omega⟩
  rintro k ⟨a, i⟩ ⟨j, hj, hj1, hk, ha⟩ X hX
  simp only at hj ha ⊢
  subst hj
  refine ⟨fun h => ?_, fun _ => ?_⟩
  · have hj2 : j < c.fa3.length := by simp at h; omega
    obtain ⟨x, hx1, hg⟩ := Kg (l := c.fa3) (n := (j : Int)) (by omega) (by omega)
    have hxr := hx x (List.mem_of_getElem? hg)
    obtain ⟨v13, e13, l13⟩ := Zs x (by omega)
    refine ⟨x, hx1, v13, e13, by omega, ?_⟩
    rw [Zm (by omega)]
    exact hX (c.fa3.length - (j + 1)) _ (by omega) ⟨j + 1, by simp, by omega, rfl, by simp; omega⟩
  · obtain ⟨v15, e15, l15⟩ := WN c.fc
    exact ⟨v15, e15, by omega, by simp; omega⟩
theorem Cm (c : QI) : ∃ r, Jr c r ∧ r.1.length ≤ 60000 := by
  refine Ce (Post := fun r => r.1.length ≤ 60000) ?_
  unfold KL
  simp only [jn]
  obtain ⟨v2, e2, ok⟩ := Xx c
  refine ⟨v2, e2, fun _ => by simp, fun h2 => ?_⟩
  obtain ⟨hp, hl, hlen, hx⟩ := ok (by simpa using h2)
  obtain ⟨v3, e3, l3⟩ := Zs c.f5 (by omega)
  obtain ⟨v4, e4, l4⟩ := Fh c.fv
  refine ⟨v3, e3, v4, e4, by omega, ?_⟩
  refine ZV (I := fun k s => ∃ j : Nat, s.2 = (j : Int) ∧ j ≤ c.fx.length ∧ k = c.fx.length - j ∧ s.1.length ≤ 17 + j) ?_ (k := c.fx.length) ⟨0, rfl, by omega, by omega, by simp; omega⟩
  rintro k ⟨a, i⟩ ⟨j, hj, hj1, hk, ha⟩ X hX
  simp only at hj ha ⊢
  subst hj
  refine ⟨fun h => ?_, fun _ => by omega⟩
  have hj2 : j < c.fx.length := by simp at h; omega
  obtain ⟨x, hx1⟩ := Yx hj2
  refine ⟨x, hx1, by simp; omega, ?_⟩
  rw [Zm (by omega)]
  exact hX (c.fx.length - (j + 1)) _ (by omega) ⟨j + 1, by simp, by omega, rfl, by simp; omega⟩
theorem EX (c : QW) : ∃ r, Vy c r ∧ r.1.length ≤ 60000 := by
  refine EF (Post := fun r => r.1.length ≤ 60000) ?_
  unfold JF
  simp only [jn]
  obtain ⟨v2, e2, ok⟩ := Yw c
  refine ⟨v2, e2, fun _ => by simp, fun h2 => ?_⟩
  obtain ⟨hs, ht, hl, hx⟩ := ok (by simpa using h2)
  obtain ⟨v3, e3, l3⟩ := Zs c.fh (by omega)
  obtain ⟨v4, e4, l4⟩ := Zs c.fk (by omega)
  obtain ⟨v6, e6, l6⟩ := WN c.fc
  obtain ⟨v8, e8, l8⟩ := Zs (c.fg.length : Int) (by omega)
  refine ⟨v3, e3, v4, e4, by omega, v6, e6, by simp; omega, v8, e8, by simp; omega, ?_⟩
  refine ZV (I := fun k s => ∃ j : Nat, s.2 = (j : Int) ∧ j ≤ c.fg.length ∧ k = c.fg.length - j ∧ s.1.length ≤ 28 + 59 * j) ?_ (k := c.fg.length) ⟨0, rfl, by omega, by omega, by simp; omega⟩
  rintro k ⟨a, i⟩ ⟨j, hj, hj1, hk, ha⟩ X hX
  simp only at hj ha ⊢
  subst hj
  refine ⟨fun h => ?_, fun _ => by omega⟩
  have hj2 : j < c.fg.length := by simp at h; omega
  obtain ⟨x, hx1, hg⟩ := Kg (l := c.fg) (n := (j : Int)) (by omega) (by omega)
  obtain ⟨k1, k2, k3⟩ := hx x (List.mem_of_getElem? hg)
  obtain ⟨v15, e15, l15⟩ := BX x.f3 (by omega)
  obtain ⟨v18, e18, l18⟩ := Zs x.fo (by omega)
  obtain ⟨v21, e21, l21⟩ := Zs x.fb3 (by omega)
  refine ⟨x, hx1, v15, e15, by omega, x, hx1, v18, e18, by simp; omega, x, hx1, v21, e21, by simp; omega, ?_⟩
  rw [Zm (by omega)]
  exact hX (c.fg.length - (j + 1)) _ (by omega) ⟨j + 1, by simp, by omega, rfl, by simp; omega⟩
theorem Bg (c : QC) : ∃ r, KP c r ∧ r.1.length ≤ 60000 := by
  refine AN (Post := fun r => r.1.length ≤ 60000) ?_
  unfold Km
  simp only [jn]
  obtain ⟨v2, e2, ok⟩ := VN c
  refine ⟨v2, e2, fun _ => by simp, fun h2 => ?_⟩
  obtain ⟨hs, ht, hlo, hl, hx⟩ := ok (by simpa using h2)
  obtain ⟨v3, e3, l3⟩ := Zs c.fh (by omega)
  obtain ⟨v4, e4, l4⟩ := Zs c.fk (by omega)
  obtain ⟨v5, e5, l5⟩ := Zs c.fb2 (by omega)
  obtain ⟨v6, e6, l6⟩ := WN c.fc
  obtain ⟨v8, e8, l8⟩ := Zs (c.fg.length : Int) (by omega)
  refine ⟨v3, e3, v4, e4, by omega, v5, e5, by simp; omega, v6, e6, by simp; omega, v8, e8, by simp; omega, ?_⟩
  refine ZV (I := fun k s => ∃ j : Nat, s.2 = (j : Int) ∧ j ≤ c.fg.length ∧ k = c.fg.length - j ∧ s.1.length ≤ 37 + 50 * j) ?_ (k := c.fg.length) ⟨0, rfl, by omega, by omega, by simp; omega⟩
  rintro k ⟨a, i⟩ ⟨j, hj, hj1, hk, ha⟩ X hX
  simp only at hj ha ⊢
  subst hj
  refine ⟨fun h => ?_, fun _ => by omega⟩
  have hj2 : j < c.fg.length := by simp at h; omega
  obtain ⟨x, hx1, hg⟩ := Kg (l := c.fg) (n := (j : Int)) (by omega) (by omega)
  obtain ⟨k1, k2, k3⟩ := hx x (List.mem_of_getElem? hg)
  obtain ⟨v15, e15, l15⟩ := BX x.f3 (by omega)
  obtain ⟨v18, e18, l18⟩ := Zs x.fo (by omega)
  refine ⟨x, hx1, v15, e15, by omega, x, hx1, v18, e18, by simp; omega, ?_⟩
  rw [Zm (by omega)]
  exact hX (c.fg.length - (j + 1)) _ (by omega) ⟨j + 1, by simp, by omega, rfl, by simp; omega⟩
theorem Du (c : QK) : ∃ r, JK c r ∧ r.1.length ≤ 60000 := by
  refine D6 (Post := fun r => r.1.length ≤ 60000) ?_
  unfold KX
  simp only [jn]
  obtain ⟨v2, e2, ok⟩ := XS c
  refine ⟨v2, e2, fun _ => by simp, fun h2 => ?_⟩
  obtain ⟨hs, ht, hlo, hl, hx⟩ := ok (by simpa using h2)
  obtain ⟨v3, e3, l3⟩ := Zs c.fh (by omega)
  obtain ⟨v4, e4, l4⟩ := Zs c.fk (by omega)
  obtain ⟨v5, e5, l5⟩ := Zs c.fa8 (by omega)
  obtain ⟨v6, e6, l6⟩ := WN c.fc
  obtain ⟨v8, e8, l8⟩ := Zs (c.fw.length : Int) (by omega)
  refine ⟨v3, e3, v4, e4, by omega, v5, e5, by simp; omega, v6, e6, by simp; omega, v8, e8, by simp; omega, ?_⟩
  refine ZV (I := fun k s => ∃ j : Nat, s.2 = (j : Int) ∧ j ≤ c.fw.length ∧ k = c.fw.length - j ∧ s.1.length ≤ 37 + 1280 * j) ?_ (k := c.fw.length) ⟨0, rfl, by omega, by omega, by simp; omega⟩
  rintro k ⟨a, i⟩ ⟨j, hj, hj1, hk, ha⟩ X hX
  simp only at hj ha ⊢
  subst hj
  refine ⟨fun h => ?_, fun _ => by omega⟩
  have hj2 : j < c.fw.length := by simp at h; omega
  obtain ⟨x, hx1, hg⟩ := Kg (l := c.fw) (n := (j : Int)) (by omega) (by omega)
  obtain ⟨k1, k2⟩ := hx x (List.mem_of_getElem? hg)
  obtain ⟨v17, e17, l17⟩ := Zs (x.length : Int) (by omega)
  refine ⟨x, hx1, v17, e17, by omega, ?_⟩
  refine ZV (I := fun k s => ∃ m : Nat, s.2 = (m : Int) ∧ m ≤ x.length ∧ k = x.length - m ∧ s.1.length ≤ 37 + 1280 * j + 9 + 41 * m) ?_ (k := x.length) ⟨0, rfl, by omega, by omega, by simp; omega⟩
  rintro kk ⟨b, ii⟩ ⟨m, hm, hm1, hkk, hb⟩ X2 hX2
  simp only at hm hb ⊢
  subst hm
  refine ⟨x, hx1, fun h3 => ?_, fun _ => ?_⟩
  · have hm2 : m < x.length := by simp at h3; omega
    obtain ⟨y, hy1, hg2⟩ := Kg (l := x) (n := (m : Int)) (by omega) (by omega)
    have hy := k2 y (List.mem_of_getElem? hg2)
    obtain ⟨v25, e25, l25⟩ := BX y (by omega)
    refine ⟨x, hx1, y, hy1, v25, e25, by omega, ?_⟩
    rw [Zm (by omega)]
    exact hX2 (x.length - (m + 1)) _ (by omega) ⟨m + 1, by simp, by omega, rfl, by simp; omega⟩
  · rw [Zm (by omega)]
    exact hX (c.fw.length - (j + 1)) _ (by omega) ⟨j + 1, by simp, by omega, rfl, by simp only; omega⟩
theorem GX (s : Qy) (h : M6 s) : ∃ r, XI s r ∧ r.1.length ≤ 60100 := by
  refine Gv (Post := fun r => r.1.length ≤ 60100) ?_
  unfold Vz
  simp only [jn]
  obtain ⟨v2, e2, hk⟩ := Ab s h
  refine ⟨v2, e2, fun _ => by simp, fun h2 => ?_⟩
  have hk := hk (by simpa using h2)
  obtain ⟨v10, e10, l10⟩ := Zs s.fa.ff (by omega)
  have fin : ∀ p : List Int, p.length ≤ 60000 → ∃ (v10 : (List Int)), QV (s.fa.ff) v10 ∧ (((v10).length + (p).length) * 1 ≤ 140737488355328) ∧ ∃ (v12 : (List Int) × Int), Zw (83) ((v10) ++ (p)) v12 ∧ v12.1.length ≤ 60100 := by
    intro p hp
    obtain ⟨v12, e12, l12⟩ := Eo 83 (v10 ++ p)
    exact ⟨v10, e10, by omega, v12, e12, by simp at l12; omega⟩
  obtain ⟨u1, t1, q1⟩ := Dt s.f0
  obtain ⟨u2, t2, q2⟩ := Bf s.fq
  obtain ⟨u3, t3, q3⟩ := Cm s.f8
  obtain ⟨u4, t4, q4⟩ := EX s.fb0
  obtain ⟨u5, t5, q5⟩ := Bg s.fu
  obtain ⟨u6, t6, q6⟩ := Du s.f7
  exact ⟨fun _ => ⟨u1, t1, fin _ q1⟩, fun _ => ⟨fun _ => ⟨u2, t2, fin _ q2⟩, fun _ => ⟨fun _ => ⟨u3, t3, fin _ q3⟩, fun _ => ⟨fun _ => ⟨u4, t4, fin _ q4⟩, fun _ => ⟨fun _ => ⟨u5, t5, fin _ q5⟩, fun _ => ⟨u6, t6, fin _ q6⟩⟩⟩⟩⟩⟩
theorem Hw (s : Qy) (h : M6 s) : ∃ r, Wv s r ∧ r.length ≤ 65536 := by
  obtain ⟨v1, e1, l1⟩ := GX s h
  obtain ⟨v2, e2, l2⟩ := Eo 88 v1.1
  exact ⟨_, ⟨v1, e1, v2.1, ⟨v2, e2, rfl⟩, rfl⟩, by omega⟩
theorem XU {x : Qu} (hk : Kd x.ff) (h : ∀ f, f < 14 → if ZY x.ff f = true then Ze x f = 0 else Ap (W9 x) f = true) : Jf x = 0 := by
  have z : UA (Ut (W9 x).kind (Ze x)) = 0 := by
    refine LU fun i hi => ?_
    rw [GE] at hi
    rw [Nv _ _ hi]
    have := h i hi
    show (if ZY x.ff i = true then Ze x i else 0) = 0
    split
    · rw [if_pos (by assumption)] at this; exact this
    · rfl
  unfold Jf EO
  rw [if_neg (by simpa [W9] using hk), z, if_neg (by simp), if_pos]
  rw [List.all_eq_true]
  intro f hf
  have := h f (by simpa using hf)
  show (ZY x.ff f || Ap (W9 x) f) = true
  cases hm : ZY x.ff f
  · rw [hm] at this; simpa using this
  · rfl
theorem M9 : (ByteArray.empty).toList = [] := Yu
theorem vk1 (n : ByteArray) (p : Qr) (hn : CG n = true) (hp : WJ p.ff p.fh p.fp p.fv = 0) : Jf (Qu.mk (1) (n) (ByteArray.empty) ([] : (List ByteArray)) p ([] : (List Qh)) ([] : (List Int)) (0) (0) (0) (0) (0) (0) (QE.mk (0) (ByteArray.empty) (0) (0) (0)) ([] : (List Int))) = 0 := by
  refine XU (show Kd 1 from ⟨by decide, by decide⟩) fun f hf => ?_
  rcases YT hf with rfl | rfl | rfl | rfl | rfl | rfl | rfl | rfl | rfl | rfl | rfl | rfl | rfl | rfl <;> simp [ZY, Yr, Ze, Ap, W9, BL, M9, hn, hp]
theorem vk2 (n : ByteArray) (hn : CG n = true) : Jf (Qu.mk (2) (n) (ByteArray.empty) ([] : (List ByteArray)) (Qr.mk (0) (0) (0) (0)) ([] : (List Qh)) ([] : (List Int)) (0) (0) (0) (0) (0) (0) (QE.mk (0) (ByteArray.empty) (0) (0) (0)) ([] : (List Int))) = 0 := by
  refine XU (show Kd 2 from ⟨by decide, by decide⟩) fun f hf => ?_
  rcases YT hf with rfl | rfl | rfl | rfl | rfl | rfl | rfl | rfl | rfl | rfl | rfl | rfl | rfl | rfl <;> simp [ZY, Yr, Ze, Ap, W9, BL, M9, hn]
theorem vk3 (n m : ByteArray) (hn : CG n = true) (hm : CG m = true) : Jf (Qu.mk (3) (n) (m) ([] : (List ByteArray)) (Qr.mk (0) (0) (0) (0)) ([] : (List Qh)) ([] : (List Int)) (0) (0) (0) (0) (0) (0) (QE.mk (0) (ByteArray.empty) (0) (0) (0)) ([] : (List Int))) = 0 := by
  refine XU (show Kd 3 from ⟨by decide, by decide⟩) fun f hf => ?_
  rcases YT hf with rfl | rfl | rfl | rfl | rfl | rfl | rfl | rfl | rfl | rfl | rfl | rfl | rfl | rfl <;> simp [ZY, Yr, Ze, Ap, W9, BL, M9, hn, hm]
theorem vk4   : Jf (Qu.mk (4) (ByteArray.empty) (ByteArray.empty) ([] : (List ByteArray)) (Qr.mk (0) (0) (0) (0)) ([] : (List Qh)) ([] : (List Int)) (0) (0) (0) (0) (0) (0) (QE.mk (0) (ByteArray.empty) (0) (0) (0)) ([] : (List Int))) = 0 := by
  refine XU (show Kd 4 from ⟨by decide, by decide⟩) fun f hf => ?_
  rcases YT hf with rfl | rfl | rfl | rfl | rfl | rfl | rfl | rfl | rfl | rfl | rfl | rfl | rfl | rfl <;> simp [ZY, Yr, Ze, Ap, W9, BL, M9]
theorem vk5 (n : ByteArray) (q : QE) (hn : CG n = true) (hq : US q.ff q.f3 q.fo q.fa9 q.fa7 = 0) : Jf (Qu.mk (5) (n) (ByteArray.empty) ([] : (List ByteArray)) (Qr.mk (0) (0) (0) (0)) ([] : (List Qh)) ([] : (List Int)) (0) (0) (0) (0) (0) (0) q ([] : (List Int))) = 0 := by
  refine XU (show Kd 5 from ⟨by decide, by decide⟩) fun f hf => ?_
  rcases YT hf with rfl | rfl | rfl | rfl | rfl | rfl | rfl | rfl | rfl | rfl | rfl | rfl | rfl | rfl <;> simp [ZY, Yr, Ze, Ap, W9, BL, M9, hn, hq]
theorem vk6 (n : ByteArray) (its : List Qh) (cs : List Int) (hn : CG n = true) (hi : I0 its = 0) (hc : AZ cs.length 64 = 0) : Jf (Qu.mk (6) (n) (ByteArray.empty) ([] : (List ByteArray)) (Qr.mk (0) (0) (0) (0)) its cs (0) (0) (0) (0) (0) (0) (QE.mk (0) (ByteArray.empty) (0) (0) (0)) ([] : (List Int))) = 0 := by
  refine XU (show Kd 6 from ⟨by decide, by decide⟩) fun f hf => ?_
  rcases YT hf with rfl | rfl | rfl | rfl | rfl | rfl | rfl | rfl | rfl | rfl | rfl | rfl | rfl | rfl <;> simp [ZY, Yr, Ze, Ap, W9, BL, M9, hn, hi, hc]
theorem vk7 (n m : ByteArray) (cs : List Int) (hn : CG n = true) (hm : CG m = true) (hc : AZ cs.length 64 = 0) : Jf (Qu.mk (7) (n) (m) ([] : (List ByteArray)) (Qr.mk (0) (0) (0) (0)) ([] : (List Qh)) cs (0) (0) (0) (0) (0) (0) (QE.mk (0) (ByteArray.empty) (0) (0) (0)) ([] : (List Int))) = 0 := by
  refine XU (show Kd 7 from ⟨by decide, by decide⟩) fun f hf => ?_
  rcases YT hf with rfl | rfl | rfl | rfl | rfl | rfl | rfl | rfl | rfl | rfl | rfl | rfl | rfl | rfl <;> simp [ZY, Yr, Ze, Ap, W9, BL, M9, hn, hm, hc]
theorem vk8 (n m : ByteArray) (cs : List Int) (e s : Int) (hn : CG n = true) (hm : CG m = true) (hc : AZ cs.length 64 = 0) (he : Y7 e 1 1048576 = 0) (hs : Y7 s 1 1048576 = 0) : Jf (Qu.mk (8) (n) (m) ([] : (List ByteArray)) (Qr.mk (0) (0) (0) (0)) ([] : (List Qh)) cs e s (0) (0) (0) (0) (QE.mk (0) (ByteArray.empty) (0) (0) (0)) ([] : (List Int))) = 0 := by
  refine XU (show Kd 8 from ⟨by decide, by decide⟩) fun f hf => ?_
  rcases YT hf with rfl | rfl | rfl | rfl | rfl | rfl | rfl | rfl | rfl | rfl | rfl | rfl | rfl | rfl <;> simp [ZY, Yr, Ze, Ap, W9, BL, M9, hn, hm, hc, he, hs]
theorem vk9 (ns : List ByteArray) (hn : HY ns = 0) : Jf (Qu.mk (9) (ByteArray.empty) (ByteArray.empty) ns (Qr.mk (0) (0) (0) (0)) ([] : (List Qh)) ([] : (List Int)) (0) (0) (0) (0) (0) (0) (QE.mk (0) (ByteArray.empty) (0) (0) (0)) ([] : (List Int))) = 0 := by
  refine XU (show Kd 9 from ⟨by decide, by decide⟩) fun f hf => ?_
  rcases YT hf with rfl | rfl | rfl | rfl | rfl | rfl | rfl | rfl | rfl | rfl | rfl | rfl | rfl | rfl <;> simp [ZY, Yr, Ze, Ap, W9, BL, M9, hn]
theorem vk10 (h i : Int) (q : QE) (hh : Y7 h 0 3 = 0) (hi : Y7 i 0 15 = 0) (hq : US q.ff q.f3 q.fo q.fa9 q.fa7 = 0) : Jf (Qu.mk (10) (ByteArray.empty) (ByteArray.empty) ([] : (List ByteArray)) (Qr.mk (0) (0) (0) (0)) ([] : (List Qh)) ([] : (List Int)) (0) (0) h i (0) (0) q ([] : (List Int))) = 0 := by
  refine XU (show Kd 10 from ⟨by decide, by decide⟩) fun f hf => ?_
  rcases YT hf with rfl | rfl | rfl | rfl | rfl | rfl | rfl | rfl | rfl | rfl | rfl | rfl | rfl | rfl <;> simp [ZY, Yr, Ze, Ap, W9, BL, M9, hh, hi, hq]
theorem vk11 (h : Int) (hh : Y7 h 0 3 = 0) : Jf (Qu.mk (11) (ByteArray.empty) (ByteArray.empty) ([] : (List ByteArray)) (Qr.mk (0) (0) (0) (0)) ([] : (List Qh)) ([] : (List Int)) (0) (0) h (0) (0) (0) (QE.mk (0) (ByteArray.empty) (0) (0) (0)) ([] : (List Int))) = 0 := by
  refine XU (show Kd 11 from ⟨by decide, by decide⟩) fun f hf => ?_
  rcases YT hf with rfl | rfl | rfl | rfl | rfl | rfl | rfl | rfl | rfl | rfl | rfl | rfl | rfl | rfl <;> simp [ZY, Yr, Ze, Ap, W9, BL, M9, hh]
theorem vk12 (h i : Int) (hh : Y7 h 0 3 = 0) (hi : Y7 i 0 15 = 0) : Jf (Qu.mk (12) (ByteArray.empty) (ByteArray.empty) ([] : (List ByteArray)) (Qr.mk (0) (0) (0) (0)) ([] : (List Qh)) ([] : (List Int)) (0) (0) h i (0) (0) (QE.mk (0) (ByteArray.empty) (0) (0) (0)) ([] : (List Int))) = 0 := by
  refine XU (show Kd 12 from ⟨by decide, by decide⟩) fun f hf => ?_
  rcases YT hf with rfl | rfl | rfl | rfl | rfl | rfl | rfl | rfl | rfl | rfl | rfl | rfl | rfl | rfl <;> simp [ZY, Yr, Ze, Ap, W9, BL, M9, hh, hi]
theorem vk13 (c n : Int) (hc : Y7 c 0 3 = 0) (hn : Y7 n 0 32 = 0) : Jf (Qu.mk (13) (ByteArray.empty) (ByteArray.empty) ([] : (List ByteArray)) (Qr.mk (0) (0) (0) (0)) ([] : (List Qh)) ([] : (List Int)) (0) (0) (0) (0) c n (QE.mk (0) (ByteArray.empty) (0) (0) (0)) ([] : (List Int))) = 0 := by
  refine XU (show Kd 13 from ⟨by decide, by decide⟩) fun f hf => ?_
  rcases YT hf with rfl | rfl | rfl | rfl | rfl | rfl | rfl | rfl | rfl | rfl | rfl | rfl | rfl | rfl <;> simp [ZY, Yr, Ze, Ap, W9, BL, M9, hc, hn]
theorem vk14 (c : Int) (hc : Y7 c 0 3 = 0) : Jf (Qu.mk (14) (ByteArray.empty) (ByteArray.empty) ([] : (List ByteArray)) (Qr.mk (0) (0) (0) (0)) ([] : (List Qh)) ([] : (List Int)) (0) (0) (0) (0) c (0) (QE.mk (0) (ByteArray.empty) (0) (0) (0)) ([] : (List Int))) = 0 := by
  refine XU (show Kd 14 from ⟨by decide, by decide⟩) fun f hf => ?_
  rcases YT hf with rfl | rfl | rfl | rfl | rfl | rfl | rfl | rfl | rfl | rfl | rfl | rfl | rfl | rfl <;> simp [ZY, Yr, Ze, Ap, W9, BL, M9, hc]
theorem vk15 (h i : Int) (hh : Y7 h 0 3 = 0) (hi : Y7 i 0 15 = 0) : Jf (Qu.mk (15) (ByteArray.empty) (ByteArray.empty) ([] : (List ByteArray)) (Qr.mk (0) (0) (0) (0)) ([] : (List Qh)) ([] : (List Int)) (0) (0) h i (0) (0) (QE.mk (0) (ByteArray.empty) (0) (0) (0)) ([] : (List Int))) = 0 := by
  refine XU (show Kd 15 from ⟨by decide, by decide⟩) fun f hf => ?_
  rcases YT hf with rfl | rfl | rfl | rfl | rfl | rfl | rfl | rfl | rfl | rfl | rfl | rfl | rfl | rfl <;> simp [ZY, Yr, Ze, Ap, W9, BL, M9, hh, hi]
theorem vk16 (n : ByteArray) (d : List Int) (hn : CG n = true) (hd : AZ d.length 65536 = 0) : Jf (Qu.mk (16) (n) (ByteArray.empty) ([] : (List ByteArray)) (Qr.mk (0) (0) (0) (0)) ([] : (List Qh)) ([] : (List Int)) (0) (0) (0) (0) (0) (0) (QE.mk (0) (ByteArray.empty) (0) (0) (0)) d) = 0 := by
  refine XU (show Kd 16 from ⟨by decide, by decide⟩) fun f hf => ?_
  rcases YT hf with rfl | rfl | rfl | rfl | rfl | rfl | rfl | rfl | rfl | rfl | rfl | rfl | rfl | rfl <;> simp [ZY, Yr, Ze, Ap, W9, BL, M9, hn, hd]
theorem vk17   : Jf (Qu.mk (17) (ByteArray.empty) (ByteArray.empty) ([] : (List ByteArray)) (Qr.mk (0) (0) (0) (0)) ([] : (List Qh)) ([] : (List Int)) (0) (0) (0) (0) (0) (0) (QE.mk (0) (ByteArray.empty) (0) (0) (0)) ([] : (List Int))) = 0 := by
  refine XU (show Kd 17 from ⟨by decide, by decide⟩) fun f hf => ?_
  rcases YT hf with rfl | rfl | rfl | rfl | rfl | rfl | rfl | rfl | rfl | rfl | rfl | rfl | rfl | rfl <;> simp [ZY, Yr, Ze, Ap, W9, BL, M9]
theorem sho0 {n : Nat} {m : Int} (h : (n : Int) ≤ m) : AZ n m = 0 := by unfold AZ; rw [if_neg (by omega)]
theorem FI {n a b : Int} (h : a ≤ n ∧ n ≤ b) : Y7 n a b = 0 := by unfold Y7; rw [if_pos h]
theorem il0 {l : List Qh} (h : 1 ≤ l.length ∧ l.length ≤ 64) (h2 : ∀ x ∈ l, FN x = 0) : I0 l = 0 := by
  unfold I0; rw [if_neg (by simpa using h)]
  exact GI fun j x hx => h2 x (List.mem_of_getElem? hx)
theorem nl0 {l : List ByteArray} (h : 1 ≤ l.length ∧ l.length ≤ 16) (h2 : ∀ x ∈ l, CG x = true) : HY l = 0 := by
  unfold HY; rw [if_neg (by simpa using h)]
  exact GI fun j x hx => by unfold BL; rw [if_pos (h2 x (List.mem_of_getElem? hx))]
def Hy (m : Nat) (x : Qu) : Prop := x.fy.length ≤ m ∧ x.fj.length ≤ m ∧ x.fa2.length ≤ m ∧ x.fa6.length ≤ m ∧ 0 ≤ x.fa.fv ∧ x.fa.fv ≤ 18446744073709551615
theorem Oh (l : List Int) (i : Int) (hl : l.length ≤ 4611686018427387904) (h0 : 0 ≤ i) (h1 : i ≤ 900) (Q : Qu → Prop) (hQ : ∀ x, Jf x = 0 → Hy 65536 x → Q x) : Wl l i Q := by
  unfold Wl
  obtain ⟨v1, e1, a1, b1⟩ := U4 l i hl h0 (by omega)
  obtain ⟨v2, e2, a2, b2⟩ := U4 l (IntKind.i64.wrap (i + 7)) hl (by rw [Zm (by omega)]; omega) (by rw [Zm (by omega)]; omega)
  refine ⟨v1, e1, v2, e2, ?_⟩
  simp only [jn, bA1, bA3, bA7]
  rw [JU a1]
  have hk0 : 0 ≤ v1 % 20 ∧ v1 % 20 ≤ 19 := by omega
  obtain ⟨s5, es5, hs5⟩ := UD (QR .i64 v1 5)
  obtain ⟨s6, es6, hs6⟩ := UD (QR .i64 v1 6)
  obtain ⟨s7, es7, hs7⟩ := UD (QR .i64 v1 7)
  obtain ⟨s8, es8, hs8⟩ := UD (QR .i64 v1 8)
  obtain ⟨p, ep, gp⟩ := CI v2
  have hp := Og gp
  obtain ⟨q, eq, hq⟩ := IR v2
  obtain ⟨c, ec, hc⟩ := Ej v2
  have hc0 : AZ c.length 64 = 0 := sho0 (by omega)
  have i5 : i.tmod 5 = i % 5 := JU h0
  have i7 : i.tmod 7 = i % 7 := JU h0
  have m5 : 0 ≤ Yd (l.length : Int) (i % 5) ∧ Yd (l.length : Int) (i % 5) ≤ l.length := by unfold Yd; split <;> omega
  have m7 : 0 ≤ Yd (l.length : Int) (i % 7) ∧ Yd (l.length : Int) (i % 7) ≤ l.length := by unfold Yd; split <;> omega
  rw [i5, i7]
  generalize v1 % 20 = k at hk0 ⊢
  generalize QR .i64 v1 5 = t5 at *
  generalize QR .i64 v1 6 = t6 at *
  generalize QR .i64 v1 7 = t7 at *
  generalize QR .i64 v1 8 = t8 at *
  generalize QR .i64 v1 10 = t10
  generalize QR .i64 v1 11 = t11
  generalize QR .i64 v2 3 = u3
  have hks : k = 0 ∨ k = 1 ∨ k = 2 ∨ k = 3 ∨ k = 4 ∨ k = 5 ∨ k = 6 ∨ k = 7 ∨ k = 8 ∨ k = 9 ∨ k = 10 ∨ k = 11 ∨ k = 12 ∨ k = 13 ∨ k = 14 ∨ k = 15 ∨ k = 16 ∨ k = 17 ∨ k = 18 ∨ k = 19 := by omega
  have z0 : Hy 65536 (Qu.mk 17 .empty .empty [] ⟨0, 0, 0, 0⟩ [] [] 0 0 0 0 0 0 ⟨0, .empty, 0, 0, 0⟩ []) := by simp [Hy]
  have c1 : Q (Qu.mk 1 s5 .empty [] p [] [] 0 0 0 0 0 0 ⟨0, .empty, 0, 0, 0⟩ []) := hQ _ (vk1 _ _ hs5 hp) (by have hps : 0 ≤ p.fv ∧ p.fv ≤ 3 := (by unfold Hp at gp; omega); simp [Hy]; omega)
  have c6 : ∃ v15, VV (List.drop (Int.toNat (Yd (l.length : Int) (i % 5))) l) (IntKind.i64.wrap (1 + t7 % 8)) v15 ∧ Q (Qu.mk 6 s5 .empty [] ⟨0, 0, 0, 0⟩ v15 c 0 0 0 0 0 0 ⟨0, .empty, 0, 0, 0⟩ []) := by
    rw [Zm (by omega)]
    obtain ⟨v15, e15, l15, o15⟩ := Ei (List.drop (Int.toNat (Yd (l.length : Int) (i % 5))) l) (1 + t7 % 8) (by simp; omega) (by omega) (by omega)
    exact ⟨v15, e15, hQ _ (vk6 _ _ _ hs5 (il0 (by omega) o15) hc0) (by simp [Hy]; omega)⟩
  obtain ⟨v15, e15, c6⟩ := c6
  have c9 : (0 ≤ IntKind.i64.wrap (IntKind.i64.wrap (1 + t10 % 2) + t11 % 2) ∧ IntKind.i64.wrap (IntKind.i64.wrap (1 + t10 % 2) + t11 % 2) ≤ 3) ∧ Q (Qu.mk 9 .empty .empty (List.take (Int.toNat (IntKind.i64.wrap (IntKind.i64.wrap (1 + t10 % 2) + t11 % 2))) [s5, s7, s8]) ⟨0, 0, 0, 0⟩ [] [] 0 0 0 0 0 0 ⟨0, .empty, 0, 0, 0⟩ []) := by
    have w : IntKind.i64.wrap (IntKind.i64.wrap (1 + t10 % 2) + t11 % 2) = 1 + t10 % 2 + t11 % 2 := by rw [Zm (n := 1 + t10 % 2) (by omega), Zm (by omega)]
    rw [w]
    refine ⟨by omega, hQ _ (vk9 _ (nl0 (by simp; omega) fun x hx => ?_)) (by simp [Hy]; omega)⟩
    have := List.mem_of_mem_take hx
    simp at this
    rcases this with rfl | rfl | rfl <;> assumption
  obtain ⟨sk, esk, zsk⟩ := Hv (List.drop (Int.toNat (Yd (l.length : Int) (i % 7))) l) (by simp; omega)
  obtain ⟨ex, eex, lex⟩ := Hw sk zsk
  rcases hks with rfl | rfl | rfl | rfl | rfl | rfl | rfl | rfl | rfl | rfl | rfl | rfl | rfl | rfl | rfl | rfl | rfl | rfl | rfl | rfl
  · exact ⟨fun _ => ⟨fun _ => ⟨s5, es5, p, ep, c1⟩, fun h => by simp at h⟩, fun h => by simp at h⟩
  · exact ⟨fun h => by simp at h, fun _ => ⟨fun _ => ⟨s5, es5, p, ep, c1⟩, fun h => by simp at h⟩⟩
  · exact ⟨fun h => by simp at h, fun _ => ⟨fun h => by simp at h, fun _ => ⟨fun _ => ⟨s5, es5, hQ _ (vk2 _ hs5) (by simp [Hy])⟩, fun h => by simp at h⟩⟩⟩
  · exact ⟨fun h => by simp at h, fun _ => ⟨fun h => by simp at h, fun _ => ⟨fun h => by simp at h, fun _ => ⟨fun _ => ⟨s5, es5, s7, es7, hQ _ (vk3 _ _ hs5 hs7) (by simp [Hy])⟩, fun h => by simp at h⟩⟩⟩⟩
  · exact ⟨fun h => by simp at h, fun _ => ⟨fun h => by simp at h, fun _ => ⟨fun h => by simp at h, fun _ => ⟨fun h => by simp at h, fun _ => ⟨fun _ => hQ _ vk4 (by simp [Hy]), fun h => by simp at h⟩⟩⟩⟩⟩
  · exact ⟨fun h => by simp at h, fun _ => ⟨fun h => by simp at h, fun _ => ⟨fun h => by simp at h, fun _ => ⟨fun h => by simp at h, fun _ => ⟨fun h => by simp at h, fun _ => ⟨fun _ => ⟨s5, es5, q, eq, hQ _ (vk5 _ _ hs5 hq) (by simp [Hy])⟩, fun h => by simp at h⟩⟩⟩⟩⟩⟩
  · exact ⟨fun h => by simp at h, fun _ => ⟨fun h => by simp at h, fun _ => ⟨fun h => by simp at h, fun _ => ⟨fun h => by simp at h, fun _ => ⟨fun h => by simp at h, fun _ => ⟨fun h => by simp at h, fun _ => ⟨fun _ => ⟨fun _ => ⟨s5, es5, m5, v15, e15, c, ec, c6⟩, fun h => by simp at h⟩, fun h => by simp at h⟩⟩⟩⟩⟩⟩⟩
  · exact ⟨fun h => by simp at h, fun _ => ⟨fun h => by simp at h, fun _ => ⟨fun h => by simp at h, fun _ => ⟨fun h => by simp at h, fun _ => ⟨fun h => by simp at h, fun _ => ⟨fun h => by simp at h, fun _ => ⟨fun h => by simp at h, fun _ => ⟨fun _ => ⟨fun _ => ⟨s5, es5, m5, v15, e15, c, ec, c6⟩, fun h => by simp at h⟩, fun h => by simp at h⟩⟩⟩⟩⟩⟩⟩⟩
  · exact ⟨fun h => by simp at h, fun _ => ⟨fun h => by simp at h, fun _ => ⟨fun h => by simp at h, fun _ => ⟨fun h => by simp at h, fun _ => ⟨fun h => by simp at h, fun _ => ⟨fun h => by simp at h, fun _ => ⟨fun h => by simp at h, fun _ => ⟨fun h => by simp at h, fun _ => ⟨fun _ => ⟨s5, es5, m5, v15, e15, c, ec, c6⟩, fun h => by simp at h⟩⟩⟩⟩⟩⟩⟩⟩⟩
  · exact ⟨fun h => by simp at h, fun _ => ⟨fun h => by simp at h, fun _ => ⟨fun h => by simp at h, fun _ => ⟨fun h => by simp at h, fun _ => ⟨fun h => by simp at h, fun _ => ⟨fun h => by simp at h, fun _ => ⟨fun h => by simp at h, fun _ => ⟨fun h => by simp at h, fun _ => ⟨fun h => by simp at h, fun _ => ⟨fun _ => ⟨s5, es5, s7, es7, c, ec, hQ _ (vk7 _ _ _ hs5 hs7 hc0) (by simp [Hy]; omega)⟩, fun h => by simp at h⟩⟩⟩⟩⟩⟩⟩⟩⟩⟩
  · exact ⟨fun h => by simp at h, fun _ => ⟨fun h => by simp at h, fun _ => ⟨fun h => by simp at h, fun _ => ⟨fun h => by simp at h, fun _ => ⟨fun h => by simp at h, fun _ => ⟨fun h => by simp at h, fun _ => ⟨fun h => by simp at h, fun _ => ⟨fun h => by simp at h, fun _ => ⟨fun h => by simp at h, fun _ => ⟨fun h => by simp at h, fun _ => ⟨fun _ => ⟨s5, es5, s7, es7, c, ec, hQ _ (vk8 _ _ _ _ _ hs5 hs7 hc0 (FI (by rw [Zm (by omega)]; omega)) (FI (by rw [Zm (by omega)]; omega))) (by simp [Hy]; omega)⟩, fun h => by simp at h⟩⟩⟩⟩⟩⟩⟩⟩⟩⟩⟩
  · exact ⟨fun h => by simp at h, fun _ => ⟨fun h => by simp at h, fun _ => ⟨fun h => by simp at h, fun _ => ⟨fun h => by simp at h, fun _ => ⟨fun h => by simp at h, fun _ => ⟨fun h => by simp at h, fun _ => ⟨fun h => by simp at h, fun _ => ⟨fun h => by simp at h, fun _ => ⟨fun h => by simp at h, fun _ => ⟨fun h => by simp at h, fun _ => ⟨fun h => by simp at h, fun _ => ⟨fun _ => ⟨fun _ => ⟨s5, es5, s7, es7, s8, es8, c9.1, c9.2⟩, fun h => by simp at h⟩, fun h => by simp at h⟩⟩⟩⟩⟩⟩⟩⟩⟩⟩⟩⟩
  · exact ⟨fun h => by simp at h, fun _ => ⟨fun h => by simp at h, fun _ => ⟨fun h => by simp at h, fun _ => ⟨fun h => by simp at h, fun _ => ⟨fun h => by simp at h, fun _ => ⟨fun h => by simp at h, fun _ => ⟨fun h => by simp at h, fun _ => ⟨fun h => by simp at h, fun _ => ⟨fun h => by simp at h, fun _ => ⟨fun h => by simp at h, fun _ => ⟨fun h => by simp at h, fun _ => ⟨fun h => by simp at h, fun _ => ⟨fun _ => ⟨s5, es5, s7, es7, s8, es8, c9.1, c9.2⟩, fun h => by simp at h⟩⟩⟩⟩⟩⟩⟩⟩⟩⟩⟩⟩⟩
  · exact ⟨fun h => by simp at h, fun _ => ⟨fun h => by simp at h, fun _ => ⟨fun h => by simp at h, fun _ => ⟨fun h => by simp at h, fun _ => ⟨fun h => by simp at h, fun _ => ⟨fun h => by simp at h, fun _ => ⟨fun h => by simp at h, fun _ => ⟨fun h => by simp at h, fun _ => ⟨fun h => by simp at h, fun _ => ⟨fun h => by simp at h, fun _ => ⟨fun h => by simp at h, fun _ => ⟨fun h => by simp at h, fun _ => ⟨fun h => by simp at h, fun _ => ⟨fun _ => ⟨q, eq, hQ _ (vk10 _ _ _ (FI (by omega)) (FI (by omega)) hq) (by simp [Hy])⟩, fun h => by simp at h⟩⟩⟩⟩⟩⟩⟩⟩⟩⟩⟩⟩⟩⟩
  · exact ⟨fun h => by simp at h, fun _ => ⟨fun h => by simp at h, fun _ => ⟨fun h => by simp at h, fun _ => ⟨fun h => by simp at h, fun _ => ⟨fun h => by simp at h, fun _ => ⟨fun h => by simp at h, fun _ => ⟨fun h => by simp at h, fun _ => ⟨fun h => by simp at h, fun _ => ⟨fun h => by simp at h, fun _ => ⟨fun h => by simp at h, fun _ => ⟨fun h => by simp at h, fun _ => ⟨fun h => by simp at h, fun _ => ⟨fun h => by simp at h, fun _ => ⟨fun h => by simp at h, fun _ => ⟨fun _ => hQ _ (vk11 _ (FI (by omega))) (by simp [Hy]), fun h => by simp at h⟩⟩⟩⟩⟩⟩⟩⟩⟩⟩⟩⟩⟩⟩⟩
  · exact ⟨fun h => by simp at h, fun _ => ⟨fun h => by simp at h, fun _ => ⟨fun h => by simp at h, fun _ => ⟨fun h => by simp at h, fun _ => ⟨fun h => by simp at h, fun _ => ⟨fun h => by simp at h, fun _ => ⟨fun h => by simp at h, fun _ => ⟨fun h => by simp at h, fun _ => ⟨fun h => by simp at h, fun _ => ⟨fun h => by simp at h, fun _ => ⟨fun h => by simp at h, fun _ => ⟨fun h => by simp at h, fun _ => ⟨fun h => by simp at h, fun _ => ⟨fun h => by simp at h, fun _ => ⟨fun h => by simp at h, fun _ => ⟨fun _ => hQ _ (vk12 _ _ (FI (by omega)) (FI (by omega))) (by simp [Hy]), fun h => by simp at h⟩⟩⟩⟩⟩⟩⟩⟩⟩⟩⟩⟩⟩⟩⟩⟩
  · exact ⟨fun h => by simp at h, fun _ => ⟨fun h => by simp at h, fun _ => ⟨fun h => by simp at h, fun _ => ⟨fun h => by simp at h, fun _ => ⟨fun h => by simp at h, fun _ => ⟨fun h => by simp at h, fun _ => ⟨fun h => by simp at h, fun _ => ⟨fun h => by simp at h, fun _ => ⟨fun h => by simp at h, fun _ => ⟨fun h => by simp at h, fun _ => ⟨fun h => by simp at h, fun _ => ⟨fun h => by simp at h, fun _ => ⟨fun h => by simp at h, fun _ => ⟨fun h => by simp at h, fun _ => ⟨fun h => by simp at h, fun _ => ⟨fun h => by simp at h, fun _ => ⟨fun _ => hQ _ (vk13 _ _ (FI (by omega)) (FI (by omega))) (by simp [Hy]), fun h => by simp at h⟩⟩⟩⟩⟩⟩⟩⟩⟩⟩⟩⟩⟩⟩⟩⟩⟩
  · exact ⟨fun h => by simp at h, fun _ => ⟨fun h => by simp at h, fun _ => ⟨fun h => by simp at h, fun _ => ⟨fun h => by simp at h, fun _ => ⟨fun h => by simp at h, fun _ => ⟨fun h => by simp at h, fun _ => ⟨fun h => by simp at h, fun _ => ⟨fun h => by simp at h, fun _ => ⟨fun h => by simp at h, fun _ => ⟨fun h => by simp at h, fun _ => ⟨fun h => by simp at h, fun _ => ⟨fun h => by simp at h, fun _ => ⟨fun h => by simp at h, fun _ => ⟨fun h => by simp at h, fun _ => ⟨fun h => by simp at h, fun _ => ⟨fun h => by simp at h, fun _ => ⟨fun h => by simp at h, fun _ => ⟨fun _ => hQ _ (vk14 _ (FI (by omega))) (by simp [Hy]), fun h => by simp at h⟩⟩⟩⟩⟩⟩⟩⟩⟩⟩⟩⟩⟩⟩⟩⟩⟩⟩
  · exact ⟨fun h => by simp at h, fun _ => ⟨fun h => by simp at h, fun _ => ⟨fun h => by simp at h, fun _ => ⟨fun h => by simp at h, fun _ => ⟨fun h => by simp at h, fun _ => ⟨fun h => by simp at h, fun _ => ⟨fun h => by simp at h, fun _ => ⟨fun h => by simp at h, fun _ => ⟨fun h => by simp at h, fun _ => ⟨fun h => by simp at h, fun _ => ⟨fun h => by simp at h, fun _ => ⟨fun h => by simp at h, fun _ => ⟨fun h => by simp at h, fun _ => ⟨fun h => by simp at h, fun _ => ⟨fun h => by simp at h, fun _ => ⟨fun h => by simp at h, fun _ => ⟨fun h => by simp at h, fun _ => ⟨fun h => by simp at h, fun _ => ⟨fun _ => ⟨fun _ => hQ _ (vk15 _ _ (FI (by omega)) (FI (by omega))) (by simp [Hy]), fun _ => ⟨s6, es6, m7, sk, esk, ex, eex, hQ _ (vk16 _ _ hs6 (sho0 (by omega))) (by simp [Hy]; omega)⟩⟩, fun h => by simp at h⟩⟩⟩⟩⟩⟩⟩⟩⟩⟩⟩⟩⟩⟩⟩⟩⟩⟩⟩
  · exact ⟨fun h => by simp at h, fun _ => ⟨fun h => by simp at h, fun _ => ⟨fun h => by simp at h, fun _ => ⟨fun h => by simp at h, fun _ => ⟨fun h => by simp at h, fun _ => ⟨fun h => by simp at h, fun _ => ⟨fun h => by simp at h, fun _ => ⟨fun h => by simp at h, fun _ => ⟨fun h => by simp at h, fun _ => ⟨fun h => by simp at h, fun _ => ⟨fun h => by simp at h, fun _ => ⟨fun h => by simp at h, fun _ => ⟨fun h => by simp at h, fun _ => ⟨fun h => by simp at h, fun _ => ⟨fun h => by simp at h, fun _ => ⟨fun h => by simp at h, fun _ => ⟨fun h => by simp at h, fun _ => ⟨fun h => by simp at h, fun _ => ⟨fun h => by simp at h, fun _ => hQ _ vk17 z0⟩⟩⟩⟩⟩⟩⟩⟩⟩⟩⟩⟩⟩⟩⟩⟩⟩⟩⟩
theorem Oi (l : List Int) (i : Int) (hl : l.length ≤ 4611686018427387904) (h0 : 0 ≤ i) (h1 : i ≤ 900) : ∃ x, A5 l i x ∧ Jf x = 0 ∧ Hy 65536 x :=
  O4 (Post := fun x => Jf x = 0 ∧ Hy 65536 x) (Oh l i hl h0 h1 _ fun x h1 h2 => ⟨h1, h2⟩)
end Go.Proofs.YthlaenafkihjiaaGreat
