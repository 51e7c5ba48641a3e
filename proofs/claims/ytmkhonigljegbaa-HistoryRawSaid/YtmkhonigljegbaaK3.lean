/- Parts of the proof, laid together. No condition. -/
import Derived.Test.YtmkhonigljegbaaK2
import Derived.Laws.Bits64
set_option linter.unusedVariables false
set_option linter.unusedSimpArgs false
namespace Go.Proofs.Ytmkhonigljegbaa
open Go.RowKit
set_option maxRecDepth 100000
set_option maxHeartbeats 4000000
def KZ (a0 : Q4) (Q : Bool → Prop) : Prop :=
 ((((bif (a0.fb != (-1)) then (bif decide (a0.fb ≤ a0.fk) then true else (bif (a0.fa != (-1)) then decide (a0.fb > a0.fa) else false)) else false)) = true → Q false) ∧ (((bif (a0.fb != (-1)) then (bif decide (a0.fb ≤ a0.fk) then true else (bif (a0.fa != (-1)) then decide (a0.fb > a0.fa) else false)) else false)) = false → Q (((bif (a0.fa == (-1)) then true else decide (a0.fa > a0.fk))))))
def ZO (a0 : Q4) (r : Bool) : Prop := KZ a0 fun x => r = x
theorem XV (a0 : Q4) (r : Bool) (h : ZO a0 r) : Qq Try.prog 16 [.agg (e_api_Record a0)] [.c (.p (.v (.bool r)))] [] := by
  refine Qp tb Try.func16 Z (by kernel_rfl) Z Z (Nat.le_of_ble_eq_true Z) Z ?_;intro E;unfold ZO KZ at h;refine Zx (fun Q hQ => ?_);refine tk fun L hL => u1 (QL Z Z) <| Qr Z Z <| rt (hL _ ?_);refine sk fun L1 hL1 => tk fun L hL => u0 (Q2 Z Z Z Z Z Z Z Z Z) <| u0 (Q1 Z Z Z Z Z Z) <| u0 (Q5 (c := (a0.fb != (-1))) Z Z Z Z Z) <| mv Z <| Q3 Z Z Q9 (fun hg => Q2 Z Z Z Z Z Z Z Z Z) <| Q3 Z Z Q9 (fun hg => Q1 (Q8 hg) Z Z Z Z Z) <| Q3 Z Z Q9 (fun hg => Q2 Z Z Z Z Z Z Z Z Z) <| Q3 Z Z Q9 (fun hg => Q1 (Q8 hg) Z Z Z Z Z) <| Q3 Z Z Q9 (fun hg => Q5 (c := decide (a0.fb ≤ a0.fk)) (Q8 hg) (Q8 hg) Z Z Z) <| Q3 Z Z Q9 (fun hg => Q7 (Q8 hg) Z) <| Qc Z Z QC (fun hg => Q2 Z Z Z Z Z Z Z Z Z) <| Qc Z Z QC (fun hg => Q1 (Q8 hg) Z Z Z Z Z) <| Qc Z Z QC (fun hg => Q5 (c := (a0.fa != (-1))) (Q8 hg) Z Z Z Z) <| Qc Z Z QC (fun hg => Q7 (Q8 hg) Z) <| Qc Z Z Qh (fun hg => Q2 Z Z Z Z Z Z Z Z Z) <| Qc Z Z Qh (fun hg => Q1 (Q8 hg) Z Z Z Z Z) <| Qc Z Z Qh (fun hg => Q2 Z Z Z Z Z Z Z Z Z) <| Qc Z Z Qh (fun hg => Q1 (Q8 hg) Z Z Z Z Z) <| Qc Z Z Qh (fun hg => Q5 (c := decide (a0.fb > a0.fa)) (Q8 hg) (Q8 hg) Z Z Z) <| Qc Z Z QC (fun hg => Qa (v := .bool (decide (a0.fb > a0.fa))) (w := .bool false) (Q8 hg) Z (Z5 hg) Z Qf Z Z Z) <| Q3 Z Z Q9 (fun hg => Qb (v := .bool true) (w := .bool ((bif (a0.fa != (-1)) then decide (a0.fb > a0.fa) else false))) (Q8 hg) Z (Jg hg) Z Qf Z Z Z) ?_
  refine u0 (Qa (v := .bool ((bif decide (a0.fb ≤ a0.fk) then true else (bif (a0.fa != (-1)) then decide (a0.fb > a0.fa) else false)))) (w := .bool false) Z Z Q9 Z Qf Z Z Z) <| rt (hL _ ?_);refine QY Z h (fun h => ?_) fun h => ?_
  · refine tk fun L hL => Qr Z Z <| rt (hL _ ?_);obtain rfl := h;exact Qe (hQ _ _ (QX Z Z))
  · refine Qg (hL1 _ ?_);refine QF (st' := ⟨[(1, .c (.ptr (1, 0) 0 0))], [((1, 0), some (.box (List.map CV.p (e_api_Record a0))))]⟩) (QG.nm [1] [((1, 0), (1, 0))] Z Z) ?_;refine tk fun L hL => u0 (Q2 Z Z Z Z Z Z Z Z Z) <| u0 (Q1 Z Z Z Z Z Z) <| u0 (Q5 (c := (a0.fa == (-1))) Z Z Z Z Z) <| mv Z <| Q3 Z Z Q6 (fun hg => Q2 Z Z Z Z Z Z Z Z Z) <| Q3 Z Z Q6 (fun hg => Q1 (Q8 hg) Z Z Z Z Z) <| Q3 Z Z Q6 (fun hg => Q2 Z Z Z Z Z Z Z Z Z) <| Q3 Z Z Q6 (fun hg => Q1 (Q8 hg) Z Z Z Z Z) <| Q3 Z Z Q6 (fun hg => Q5 (c := decide (a0.fa > a0.fk)) (Q8 hg) (Q8 hg) Z Z Z) <| u0 (Qb (v := .bool true) (w := .bool (decide (a0.fa > a0.fk))) Z Z Q6 Z Qf Z Z Z) <| Qr Z Z <| rt (hL _ ?_);obtain rfl := h;exact Qe (hQ _ _ (QX Z Z))
def Kp (a0 : Qs) (Q : Bool → Prop) : Prop :=
 Q (((bif (bif (bif (bif (bif (a0.fa6 == 0) then (a0.f0 == 0) else false) then (a0.fu.toList == ((⟨#[]⟩ : ByteArray)).toList) else false) then (((a0.fa8.length : Int)) == 0) else false) then (((a0.fa9.length : Int)) == 0) else false) then !(a0.fw) else false)))
def Zt (a0 : Qs) (r : Bool) : Prop := Kp a0 fun x => r = x
theorem VS (a0 : Qs) (r : Bool) (h : Zt a0 r) : Qq Try.prog 32 [.agg (Vo a0)] [.c (.p (.v (.bool r)))] [] := by
  refine Qp tb Try.func32 Z (by kernel_rfl) Z Z (Nat.le_of_ble_eq_true Z) Z ?_;intro E;unfold Zt Kp at h;refine Zx (fun Q hQ => ?_);refine tk fun L hL => u1 (QL Z Z) <| Qr Z Z <| rt (hL _ ?_);refine tk fun L hL => u0 (Q2 Z Z Z Z Z Z Z Z Z) <| u0 (Q1 Z Z Z Z Z Z) <| u0 (Q5 (c := (a0.fa6 == 0)) Z Z Z Z Z) <| mv Z <| Q3 Z Z Q9 (fun hg => Q2 Z Z Z Z Z Z Z Z Z) <| Q3 Z Z Q9 (fun hg => Q1 (Q8 hg) Z Z Z Z Z) <| Q3 Z Z Q9 (fun hg => Q5 (c := (a0.f0 == 0)) (Q8 hg) Z Z Z Z) <| u0 (Qa (v := .bool ((a0.f0 == 0))) (w := .bool false) Z Z Q9 Z Qf Z Z Z) <| mv Z <| Q3 Z Z Q9 (fun hg => Q2 Z Z Z Z Z Z Z Z Z) <| Q3 Z Z Q9 (fun hg => Q1 (Q8 hg) Z Z Z Z Z) <| Q3 Z Z Q9 (fun hg => JM (c := (a0.fu.toList == ((⟨#[]⟩ : ByteArray)).toList)) (Q8 hg) Z Z Z Z) <| u0 (Qa (v := .bool ((a0.fu.toList == ((⟨#[]⟩ : ByteArray)).toList))) (w := .bool false) Z Z Q9 Z Qf Z Z Z) <| mv Z <| Q3 Z Z Q9 (fun hg => Q2 Z Z Z Z Z Z Z Z Z) <| Q3 Z Z Q9 (fun hg => Q1 (Q8 hg) Z Z Z Z Z) <| Q3 Z Z Q9 (fun hg => Qi (Q8 hg) Z Z Z) <| Q3 Z Z Q9 (fun hg => Q5 (c := (((a0.fa8.length : Int)) == 0)) (Q8 hg) Z Z Z Z) <| u0 (Qa (v := .bool ((((a0.fa8.length : Int)) == 0))) (w := .bool false) Z Z Q9 Z Qf Z Z Z) <| mv Z <| Q3 Z Z Q9 (fun hg => Q2 Z Z Z Z Z Z Z Z Z) <| Q3 Z Z Q9 (fun hg => Q1 (Q8 hg) Z Z Z Z Z) <| Q3 Z Z Q9 (fun hg => Qi (Q8 hg) Z Z Z) <| Q3 Z Z Q9 (fun hg => Q5 (c := (((a0.fa9.length : Int)) == 0)) (Q8 hg) Z Z Z Z) ?_
  refine u0 (Qa (v := .bool ((((a0.fa9.length : Int)) == 0))) (w := .bool false) Z Z Q9 Z Qf Z Z Z) <| mv Z <| Q3 Z Z Q9 (fun hg => Q2 Z Z Z Z Z Z Z Z Z) <| Q3 Z Z Q9 (fun hg => Q1 (Q8 hg) Z Z Z Z Z) <| Q3 Z Z Q9 (fun hg => Qt (Q8 hg) Z Z) <| u0 (Qa (v := .bool (!(a0.fw))) (w := .bool false) Z Z Q9 Z Qf Z Z Z) <| Qr Z Z <| rt (hL _ ?_);obtain rfl := h;exact Qe (hQ _ _ (QX Z Z))
def K3 (a0 : Qj) (Q : Bool → Prop) : Prop :=
 ∃ (v1 : Bool), (((bif (bif (bif (bif (a0.fa0 == 0) then (a0.f4 == 0) else false) then (a0.fx == 0) else false) then (a0.fo == 0) else false) then (((a0.fj.length : Int)) == 0) else false)) = true → Zt a0.f9 v1) ∧ Q (((bif (bif (bif (bif (bif (bif (a0.fa0 == 0) then (a0.f4 == 0) else false) then (a0.fx == 0) else false) then (a0.fo == 0) else false) then (((a0.fj.length : Int)) == 0) else false) then v1 else false) then (((a0.fv.length : Int)) == 0) else false)))
def Z9 (a0 : Qj) (r : Bool) : Prop := K3 a0 fun x => r = x
theorem Vq (a0 : Qj) (r : Bool) (h : Z9 a0 r) : Qq Try.prog 22 [.agg (Zq a0)] [.c (.p (.v (.bool r)))] [] := by
  refine Qp tb Try.func22 Z (by kernel_rfl) Z Z (Nat.le_of_ble_eq_true Z) Z ?_;intro E;unfold Z9 K3 at h;refine Zx (fun Q hQ => ?_);refine tk fun L hL => u1 (QL Z Z) <| Qr Z Z <| rt (hL _ ?_);refine tk fun L hL => u0 (Q2 Z Z Z Z Z Z Z Z Z) <| u0 (Q1 Z Z Z Z Z Z) <| u0 (Q5 (c := (a0.fa0 == 0)) Z Z Z Z Z) <| mv Z <| Q3 Z Z Q9 (fun hg => Q2 Z Z Z Z Z Z Z Z Z) <| Q3 Z Z Q9 (fun hg => Q1 (Q8 hg) Z Z Z Z Z) <| Q3 Z Z Q9 (fun hg => Q5 (c := (a0.f4 == 0)) (Q8 hg) Z Z Z Z) <| u0 (Qa (v := .bool ((a0.f4 == 0))) (w := .bool false) Z Z Q9 Z Qf Z Z Z) <| mv Z <| Q3 Z Z Q9 (fun hg => Q2 Z Z Z Z Z Z Z Z Z) <| Q3 Z Z Q9 (fun hg => Q1 (Q8 hg) Z Z Z Z Z) <| Q3 Z Z Q9 (fun hg => Q5 (c := (a0.fx == 0)) (Q8 hg) Z Z Z Z) <| u0 (Qa (v := .bool ((a0.fx == 0))) (w := .bool false) Z Z Q9 Z Qf Z Z Z) <| mv Z <| Q3 Z Z Q9 (fun hg => Q2 Z Z Z Z Z Z Z Z Z) <| Q3 Z Z Q9 (fun hg => Q1 (Q8 hg) Z Z Z Z Z) <| Q3 Z Z Q9 (fun hg => Q5 (c := (a0.fo == 0)) (Q8 hg) Z Z Z Z) <| u0 (Qa (v := .bool ((a0.fo == 0))) (w := .bool false) Z Z Q9 Z Qf Z Z Z) <| mv Z <| Q3 Z Z Q9 (fun hg => Q2 Z Z Z Z Z Z Z Z Z) <| Q3 Z Z Q9 (fun hg => Q1 (Q8 hg) Z Z Z Z Z) <| Q3 Z Z Q9 (fun hg => Qi (Q8 hg) Z Z Z) <| Q3 Z Z Q9 (fun hg => Q5 (c := (((a0.fj.length : Int)) == 0)) (Q8 hg) Z Z Z Z) <| u0 (Qa (v := .bool ((((a0.fj.length : Int)) == 0))) (w := .bool false) Z Z Q9 Z Qf Z Z Z) ?_
  refine mv Z <| Q3 Z Z Q9 (fun hg => Q2 Z Z Z Z Z Z Z Z Z) <| Q3 Z Z Q9 (fun hg => Qo (Q8 hg) Z Z Z Z Z Z) ?_;obtain ⟨v1, hv1, h⟩ := h;refine Q3 Z Z Q9 (fun hg => Qd (VS _ _ (hv1 hg)) Z Z (.cons (QS hg (.agg (.pp (.pp (.pp (.pp (.pp (.pp .nil)))))))) .nil) Z Z Z) <| u0 (Qa (v := .bool v1) (w := .bool false) Z Z Q9 Z Qf Z Z Z) <| mv Z <| Q3 Z Z Q9 (fun hg => Q2 Z Z Z Z Z Z Z Z Z) <| Q3 Z Z Q9 (fun hg => Q1 (Q8 hg) Z Z Z Z Z) <| Q3 Z Z Q9 (fun hg => Qi (Q8 hg) Z Z Z) <| Q3 Z Z Q9 (fun hg => Q5 (c := (((a0.fv.length : Int)) == 0)) (Q8 hg) Z Z Z Z) <| u0 (Qa (v := .bool ((((a0.fv.length : Int)) == 0))) (w := .bool false) Z Z Q9 Z Qf Z Z Z) <| Qr Z Z <| rt (hL _ ?_);obtain rfl := h;exact Qe (hQ _ _ (QX Z Z))
def Jk (a0 : Q4) (Q : Bool → Prop) : Prop :=
 ((((bif (bif (a0.fa != (-1)) then (a0.fb == (-1)) else false) then !((a0.fh.fa0 == 16)) else false)) = true → Q false) ∧ (((bif (bif (a0.fa != (-1)) then (a0.fb == (-1)) else false) then !((a0.fh.fa0 == 16)) else false)) = false → ((((bif (a0.fb != (-1)) then (a0.fh.fa0 == 16) else false)) = true → Q false) ∧ (((bif (a0.fb != (-1)) then (a0.fh.fa0 == 16) else false)) = false → ∃ (v2 : Bool), ((!((a0.fa != (-1)))) = true → Z9 a0.fh v2) ∧ Q (((bif (a0.fa != (-1)) then true else v2)))))))
def ZV (a0 : Q4) (r : Bool) : Prop := Jk a0 fun x => r = x
theorem Yg (a0 : Q4) (r : Bool) (h : ZV a0 r) : Qq Try.prog 17 [.agg (e_api_Record a0)] [.c (.p (.v (.bool r)))] [] := by
  refine Qp tb Try.func17 Z (by kernel_rfl) Z Z (Nat.le_of_ble_eq_true Z) Z ?_;intro E;unfold ZV Jk at h;refine Zx (fun Q hQ => ?_);refine tk fun L hL => u1 (QL Z Z) <| Qr Z Z <| rt (hL _ ?_);refine tk fun L hL => u0 (Q2 Z Z Z Z Z Z Z Z Z) <| u0 (Q2 Z Z Z Z Z Z Z Z Z) <| u0 (Q1 Z Z Z Z Z Z) <| u0 (Q5 (c := (a0.fh.fa0 == 16)) Z Z Z Z Z) <| Qr Z Z <| rt (hL _ ?_);refine sk fun L1 hL1 => Ql <| tk fun L hL => u0 (Q2 Z Z Z Z Z Z Z Z Z) <| u0 (Q1 Z Z Z Z Z Z) <| u0 (Q5 (c := (a0.fa != (-1))) Z Z Z Z Z) <| mv Z <| Q3 Z Z Q9 (fun hg => Q2 Z Z Z Z Z Z Z Z Z) <| Q3 Z Z Q9 (fun hg => Q1 (Q8 hg) Z Z Z Z Z) <| Q3 Z Z Q9 (fun hg => Q5 (c := (a0.fb == (-1))) (Q8 hg) Z Z Z Z) <| u0 (Qa (v := .bool ((a0.fb == (-1)))) (w := .bool false) Z Z Q9 Z Qf Z Z Z) <| mv Z <| Q3 Z Z Q9 (fun hg => Q7 Z Z) <| Q3 Z Z Q9 (fun hg => Qt (Q8 hg) Z Z) <| u0 (Qa (v := .bool (!((a0.fh.fa0 == 16)))) (w := .bool false) Z Z Q9 Z Qf Z Z Z) <| Qr Z Z <| rt (hL _ ?_);refine QY Z h (fun h => ?_) fun h => ?_
  · refine tk fun L hL => Qr Z Z <| rt (hL _ ?_);obtain rfl := h;exact Qe (hQ _ _ (QX Z Z))
  · refine tk fun L hL => u0 (Q2 Z Z Z Z Z Z Z Z Z) <| u0 (Q1 Z Z Z Z Z Z) <| u0 (Q5 (c := (a0.fb != (-1))) Z Z Z Z Z) <| mv Z <| Q3 Z Z Q9 (fun hg => Q7 Z Z) <| u0 (Qa (v := .bool ((a0.fh.fa0 == 16))) (w := .bool false) Z Z Q9 Z Qf Z Z Z) <| Qr Z Z <| rt (hL _ ?_);refine QY Z h (fun h => ?_) fun h => ?_
    · refine tk fun L hL => Qr Z Z <| rt (hL _ ?_);obtain rfl := h;exact Qe (hQ _ _ (QX Z Z))
    · refine Qg (hL1 _ ?_);refine QF (st' := ⟨[(1, .c (.ptr (1, 0) 0 0))], [((1, 0), some (.box (List.map CV.p (e_api_Record a0))))]⟩) (QG.nm [1] [((1, 0), (1, 0))] Z Z) ?_;refine tk fun L hL => u0 (Q2 Z Z Z Z Z Z Z Z Z) <| u0 (Q1 Z Z Z Z Z Z) <| u0 (Q5 (c := (a0.fa != (-1))) Z Z Z Z Z) <| mv Z <| Q3 Z Z Q6 (fun hg => Q2 Z Z Z Z Z Z Z Z Z) <| Q3 Z Z Q6 (fun hg => Qo (Q8 hg) Z Z Z Z Z Z) ?_;obtain ⟨v2, hv2, h⟩ := h;refine Q3 Z Z Q6 (fun hg => Qd (Vq _ _ (hv2 hg)) Z Z (.cons (QS hg (.agg (.pp (.pp (.pp (.pp (.pp (.pp (.pp (.pp (.pp (.pp (.pp (.pp .nil)))))))))))))) .nil) Z Z Z) <| u0 (Qb (v := .bool true) (w := .bool v2) Z Z Q6 Z Qf Z Z Z) <| Qr Z Z <| rt (hL _ ?_);obtain rfl := h;exact Qe (hQ _ _ (QX Z Z))
def Zj (a0 : (List Q4)) (Q : Int → Prop) : Prop :=
 jn (fun (p1 : Unit) => Q 0) (fun (J1 : Unit → Prop) => lp (fun (X2 : Int → Prop) (s2 : Int) => (((decide (s2 < ((a0.length : Int)))) = true → jn (fun (p4 : Unit) => X2 ((IntKind.i64.wrap (s2 + 1)))) (fun (J4 : Unit → Prop) => ∃ v5, ix a0 s2 v5 ∧ ((((bif (bif (bif (bif decide (v5.fm < 0) then true else decide (v5.fm ≥ 64)) then true else decide (v5.fk < 0)) then true else decide (v5.fb < (-1))) then true else decide (v5.fa < (-1)))) = true → Q 5) ∧ (((bif (bif (bif (bif decide (v5.fm < 0) then true else decide (v5.fm ≥ 64)) then true else decide (v5.fk < 0)) then true else decide (v5.fb < (-1))) then true else decide (v5.fa < (-1)))) = false → ∃ v8, Ko v5.fOp v8 ∧ ((((v8 != 0)) = true → Q v8) ∧ (((v8 != 0)) = false → ∃ (v10 : Q4), ((decide (s2 > 0)) = true → ix a0 (IntKind.i64.wrap (s2 - 1)) v10) ∧ ∃ (v11 : Bool), ((!((bif decide (s2 > 0) then decide (v5.fk ≤ v10.fk) else false))) = true → ZO v5 v11) ∧ ((((bif (bif decide (s2 > 0) then decide (v5.fk ≤ v10.fk) else false) then true else !(v11))) = true → Q 19) ∧ (((bif (bif decide (s2 > 0) then decide (v5.fk ≤ v10.fk) else false) then true else !(v11))) = false → jn (fun (p12 : Unit) => ∃ v19, ZV v5 v19 ∧ (((!(v19)) = true → Q 17) ∧ ((!(v19)) = false → ((0 : Int) ≤ s2 ∧ (s2 : Int) ≤ (a0.length : Int)) ∧ lp (fun (X21 : Int → Prop) (s21 : Int) => (((decide (s21 < (((List.take (Int.toNat s2) a0).length : Int)))) = true → ∃ v24, ix (List.take (Int.toNat s2) a0) s21 v24 ∧ ((((bif (bif (v5.fb != (-1)) then (v24.fb == v5.fb) else false) then true else (bif (v5.fa != (-1)) then (v24.fa == v5.fa) else false))) = true → Q 9) ∧ (((bif (bif (v5.fb != (-1)) then (v24.fb == v5.fb) else false) then true else (bif (v5.fa != (-1)) then (v24.fa == v5.fa) else false))) = false → X21 ((IntKind.i64.wrap (s21 + 1)))))) ∧ ((decide (s21 < (((List.take (Int.toNat s2) a0).length : Int)))) = false → J4 (())))) 0))) (fun (J12 : Unit → Prop) => ((0 : Int) ≤ s2 ∧ (s2 : Int) ≤ (a0.length : Int)) ∧ lp (fun (X14 : Int → Prop) (s14 : Int) => (((decide (s14 < (((List.take (Int.toNat s2) a0).length : Int)))) = true → ∃ v17, ix (List.take (Int.toNat s2) a0) s14 v17 ∧ ((((bif (v17.fm == v5.fm) then (bif (v17.fa == (-1)) then true else decide (v17.fa ≥ v5.fk)) else false)) = true → Q 12) ∧ (((bif (v17.fm == v5.fm) then (bif (v17.fa == (-1)) then true else decide (v17.fa ≥ v5.fk)) else false)) = false → X14 ((IntKind.i64.wrap (s14 + 1)))))) ∧ ((decide (s14 < (((List.take (Int.toNat s2) a0).length : Int)))) = false → J12 (())))) 0))))))))) ∧ ((decide (s2 < ((a0.length : Int)))) = false → J1 (())))) 0)
def Zk (a0 : (List Q4)) (r : Int) : Prop := Zj a0 fun x => r = x
theorem Xr {a0 : (List Q4)} {Post : Int → Prop} (h : Zj a0 Post) : ∃ r, Zk a0 r ∧ Post r := (show GM (Zj a0) (Zj a0) from GM.join (fun p1 => GM.ret _) (fun _ _ J1 => GM.loop (fun X Y Q s2 X2 h => ⟨fun hc => Uh (h.1 hc) (fun p4 h => X2 _ h) (fun _ _ J4 h => (Exists.elim h fun v5 hv5 => ⟨v5, hv5.1, ⟨fun hc => hv5.2.1 hc, fun hc => (Exists.elim (hv5.2.2 hc) fun v8 hv8 => ⟨v8, hv8.1, ⟨fun hc => hv8.2.1 hc, fun hc => (Exists.elim (hv8.2.2 hc) fun v10 hv10 => ⟨v10, hv10.1, (Exists.elim hv10.2 fun v11 hv11 => ⟨v11, hv11.1, ⟨fun hc => hv11.2.1 hc, fun hc => Uh (hv11.2.2 hc) (fun p12 h => (Exists.elim h fun v19 hv19 => ⟨v19, hv19.1, ⟨fun hc => hv19.2.1 hc, fun hc => ⟨(hv19.2.2 hc).1, Ui ((hv19.2.2 hc).2) (fun _ _ X21 s21 h => ⟨fun hc => (Exists.elim (h.1 hc) fun v24 hv24 => ⟨v24, hv24.1, ⟨fun hc => hv24.2.1 hc, fun hc => X21 _ (hv24.2.2 hc)⟩⟩), fun hc => J4 _ (h.2 hc)⟩)⟩⟩⟩)) (fun _ _ J12 h => ⟨h.1, Ui h.2 (fun _ _ X14 s14 h => ⟨fun hc => (Exists.elim (h.1 hc) fun v17 hv17 => ⟨v17, hv17.1, ⟨fun hc => hv17.2.1 hc, fun hc => X14 _ (hv17.2.2 hc)⟩⟩), fun hc => J12 _ (h.2 hc)⟩)⟩)⟩⟩)⟩)⟩⟩)⟩⟩)), fun hc => h.2 hc⟩) (fun _ _ X2 s2 => GM.cond (GM.join (fun p4 => X2 _) (fun _ _ J4 => GM.ex fun v5 => GM.cond (GM.ret _) (GM.ex fun v8 => GM.cond (GM.ret _) (GM.ex fun v10 => GM.ex fun v11 => GM.cond (GM.ret _) (GM.join (fun p12 => GM.ex fun v19 => GM.cond (GM.ret _) (GM.and (GM.loop (fun X Y Q s21 X21 h => ⟨fun hc => (Exists.elim (h.1 hc) fun v24 hv24 => ⟨v24, hv24.1, ⟨fun hc => hv24.2.1 hc, fun hc => X21 _ (hv24.2.2 hc)⟩⟩), fun hc => h.2 hc⟩) (fun _ _ X21 s21 => GM.cond (GM.ex fun v24 => GM.cond (GM.ret _) (X21 _)) (J4 _))))) (fun _ _ J12 => GM.and (GM.loop (fun X Y Q s14 X14 h => ⟨fun hc => (Exists.elim (h.1 hc) fun v17 hv17 => ⟨v17, hv17.1, ⟨fun hc => hv17.2.1 hc, fun hc => X14 _ (hv17.2.2 hc)⟩⟩), fun hc => h.2 hc⟩) (fun _ _ X14 s14 => GM.cond (GM.ex fun v17 => GM.cond (GM.ret _) (X14 _)) (J12 _))))))))) (J1 _)))) Post h
theorem JB (a0 : (List Q4)) (r : Int) (h : Zk a0 r) : Qq Try.prog 8 [.c (.l 38 (List.map e_api_Record a0))] [.c (.p (.v (.int .i64 r)))] [] := by
  refine Qp tb Try.func8 Z (by kernel_rfl) Z Z (Nat.le_of_ble_eq_true Z) Z ?_;intro E;unfold Zk Zj at h;refine Zx (fun Q hQ => ?_);refine tk fun L hL => Qr Z Z <| rt (hL _ ?_);refine Zo (fun (p1 : Unit) => (⟨[], []⟩ : St)) h (fun p1 h => ?_) (fun J1 L1 hL1 h => ?_)
  · refine tk fun L hL => Qr Z Z <| rt (hL _ ?_);obtain rfl := h;exact Qe (hQ _ _ (QX Z Z))
  · refine tk fun L hL => mv Z <| u0 (Qi Z Z Z Z) <| u0 (Q7 Z Z) <| rt (hL _ ?_);refine Ql ?_;refine ZK (fun (s2 : Int) => (⟨[(0, .c (.p (.l 38 (List.map e_api_Record a0)))), (10, .c (.p (.l 38 (List.map e_api_Record a0)))), (11, .c (.p (.v (.int .i64 ((a0.length : Int)))))), (12, .c (.p (.v (.int .i64 s2))))], []⟩ : St)) h (QG.nm [0, 10, 11, 12] [] Z (by kernel_rfl)) (fun X2 L2 hL2 s2 h => ?_);refine tk fun L hL => u0 (Q5 (c := decide (s2 < ((a0.length : Int)))) Z Z Z Z Z) <| rt (hL _ ?_);refine sk fun L3 hL3 => ?_;refine QY Z h (fun h => ?_) fun h => ?_
    · refine Qg (hL3 _ ?_);refine Zo (fun (p4 : Unit) => (⟨[(0, .c (.p (.l 38 (List.map e_api_Record a0)))), (10, .c (.p (.l 38 (List.map e_api_Record a0)))), (11, .c (.p (.v (.int .i64 ((a0.length : Int)))))), (12, .c (.p (.v (.int .i64 s2))))], []⟩ : St)) h (fun p4 h => ?_) (fun J4 L4 hL4 h => ?_)
      · refine tl fun L hL => u0 (QO Z Z Z Z Z) <| mv Z ?_;refine rt (hL _ (hL2 _ _ h (QG.nm [0, 10, 11, 12] [] Z (by kernel_rfl))))
      · refine Ql <| tk fun L hL => mv Z ?_;obtain ⟨v5, hv5, h⟩ := h;refine u0 (Qk hv5 Z Z Z Z Z Z Z Z) <| u0 (Qy Z Z Z Z Z Z Z) <| u1 (Z8 Z Z Z) <| Qr Z Z <| un (Zr Z Z Z Z Z Z Z Z Z) <| rt (hL _ ?_);refine sk fun L6 hL6 => tk fun L hL => u0 (Q2 Z Z Z Z Z Z Z Z Z) <| u0 (Q1 Z Z Z Z Z Z) <| u0 (Q5 (c := decide (v5.fm < 0)) Z Z Z Z Z) <| mv Z <| Q3 Z Z Q6 (fun hg => Q2 Z Z Z Z Z Z Z Z Z) <| Q3 Z Z Q6 (fun hg => Q1 (Q8 hg) Z Z Z Z Z) <| Q3 Z Z Q6 (fun hg => Q5 (c := decide (v5.fm ≥ 64)) (Q8 hg) Z Z Z Z) <| u0 (Qb (v := .bool true) (w := .bool (decide (v5.fm ≥ 64))) Z Z Q6 Z Qf Z Z Z) <| mv Z <| Q3 Z Z Q6 (fun hg => Q2 Z Z Z Z Z Z Z Z Z) <| Q3 Z Z Q6 (fun hg => Q1 (Q8 hg) Z Z Z Z Z) <| Q3 Z Z Q6 (fun hg => Q5 (c := decide (v5.fk < 0)) (Q8 hg) Z Z Z Z) <| u0 (Qb (v := .bool true) (w := .bool (decide (v5.fk < 0))) Z Z Q6 Z Qf Z Z Z) <| mv Z <| Q3 Z Z Q6 (fun hg => Q2 Z Z Z Z Z Z Z Z Z) <| Q3 Z Z Q6 (fun hg => Q1 (Q8 hg) Z Z Z Z Z) <| Q3 Z Z Q6 (fun hg => Q5 (c := decide (v5.fb < (-1))) (Q8 hg) Z Z Z Z) <| u0 (Qb (v := .bool true) (w := .bool (decide (v5.fb < (-1)))) Z Z Q6 Z Qf Z Z Z) <| mv Z <| Q3 Z Z Q6 (fun hg => Q2 Z Z Z Z Z Z Z Z Z) <| Q3 Z Z Q6 (fun hg => Q1 (Q8 hg) Z Z Z Z Z) <| Q3 Z Z Q6 (fun hg => Q5 (c := decide (v5.fa < (-1))) (Q8 hg) Z Z Z Z) <| u0 (Qb (v := .bool true) (w := .bool (decide (v5.fa < (-1)))) Z Z Q6 Z Qf Z Z Z) ?_
        refine rt (hL _ ?_);refine QY Z h (fun h => ?_) fun h => ?_
        · refine tk fun L hL => Qr Z Z <| rt (hL _ ?_);obtain rfl := h;exact Qe (hQ _ _ (QX Z Z))
        · refine Qg (hL6 _ ?_);refine QF (st' := ⟨[(0, .c (.p (.l 38 (List.map e_api_Record a0)))), (10, .c (.p (.l 38 (List.map e_api_Record a0)))), (11, .c (.p (.v (.int .i64 ((a0.length : Int)))))), (12, .c (.p (.v (.int .i64 s2)))), (4, .c (.ptr (4, 0) 0 0)), (3, .c (.p (.v (.int .i64 s2))))], [((4, 0), some (.box (List.map CV.p (e_api_Record v5))))]⟩) (QG.nm [0, 10, 11, 12, 4, 3] [((4, 0), (4, 0))] Z Z) ?_;refine sk fun L7 hL7 => tk fun L hL => u0 (Q2 Z Z Z Z Z Z Z Z Z) <| u0 (Qo Z Z Z Z Z Z Z) ?_;obtain ⟨v8, hv8, h⟩ := h;refine u0 (Qd (VR _ _ hv8) Z Z (.cons (.agg (.pp (.pp (.pp (.pp (.pp (.pp (.pp (.pp (.pp (.pp (.pp (.pp (.pp (.pp (.pp (.pp (.pp (.pp (.pp (.pp (.pp (.pp .nil))))))))))))))))))))))) .nil) Z Z Z) <| Qr Z Z <| rt (hL _ ?_);refine tk fun L hL => mv Z <| u0 (Q5 (c := (v8 != 0)) Z Z Z Z Z) <| rt (hL _ ?_);refine QY Z h (fun h => ?_) fun h => ?_
          · refine tk fun L hL => mv Z <| Qr Z Z <| rt (hL _ ?_);obtain rfl := h;exact Qe (hQ _ _ (QX Z Z))
          · refine Qg (hL7 _ ?_);refine sk fun L9 hL9 => dk mixed (fun L hL => ?_);refine mv Z <| u0 (Q5 (c := decide (s2 > 0)) Z Z Z Z Z) <| mv Z <| Q3 Z Z Q9 (fun hg => Q2 Z Z Z Z Z Z Z Z Z) <| Q3 Z Z Q9 (fun hg => Q1 (Q8 hg) Z Z Z Z Z) <| Q3 Z Z Q9 (fun hg => Q7 Z Z) <| Q3 Z Z Q9 (fun hg => Q7 Z Z) <| Q3 Z Z Q9 (fun hg => KG (Q8 hg) Z Z Z Z) ?_;obtain ⟨v10, hv10, h⟩ := h;refine Q3 Z Z Q9 (fun hg => Qk (hv10 hg) (Q8 hg) (Q8 hg) Z Z Z Z Z Z) <| Q3 Z Z Q9 (fun hg => QK (Q8 hg) Z Z Z Z Z Z Z) <| Q3 Z Z Q9 (fun hg => Qn (Q8 hg) Z Z Z Z) <| Q3 Z Z Q9 (fun hg => Q5 (c := decide (v5.fk ≤ v10.fk)) (Q8 hg) (Q8 hg) Z Z Z) <| u0 (Qa (v := .bool (decide (v5.fk ≤ v10.fk))) (w := .bool false) Z Z Q9 Z Qf Z Z Z) <| mv Z <| Q3 Z Z Q6 (fun hg => Qo Z Z Z Z Z Z Z) ?_;obtain ⟨v11, hv11, h⟩ := h;refine Q3 Z Z Q6 (fun hg => Qd (XV _ _ (hv11 hg)) Z Z (.cons (QS hg (.agg (.pp (.pp (.pp (.pp (.pp (.pp (.pp (.pp (.pp (.pp (.pp (.pp (.pp (.pp (.pp (.pp (.pp (.pp (.pp (.pp (.pp (.pp (.pp (.pp (.pp (.pp (.pp (.pp (.pp (.pp (.pp (.pp (.pp (.pp (.pp (.pp (.pp (.pp .nil)))))))))))))))))))))))))))))))))))))))) .nil) Z Z Z) <| Q3 Z Z Q6 (fun hg => Qt (Q8 hg) Z Z) <| u0 (Qb (v := .bool true) (w := .bool (!(v11))) Z Z Q6 Z Qf Z Z Z) <| rd (hL _ ?_)
            refine QY Z h (fun h => ?_) fun h => ?_
            · refine tk fun L hL => Qr Z Z <| rt (hL _ ?_);obtain rfl := h;exact Qe (hQ _ _ (QX Z Z))
            · refine Qg (hL9 _ ?_);refine QF (st' := ⟨[(0, .c (.p (.l 38 (List.map e_api_Record a0)))), (10, .c (.p (.l 38 (List.map e_api_Record a0)))), (11, .c (.p (.v (.int .i64 ((a0.length : Int)))))), (12, .c (.p (.v (.int .i64 s2)))), (4, .c (.ptr (4, 0) 0 0)), (3, .c (.p (.v (.int .i64 s2))))], [((4, 0), some (.box (List.map CV.p (e_api_Record v5))))]⟩) (QG.nm [0, 10, 11, 12, 4, 3] [((4, 0), (4, 0))] Z Z) ?_;refine Zo (fun (p12 : Unit) => (⟨[(0, .c (.p (.l 38 (List.map e_api_Record a0)))), (3, .c (.p (.v (.int .i64 s2)))), (4, .c (.ptr (4, 0) 0 0)), (10, .c (.p (.l 38 (List.map e_api_Record a0)))), (11, .c (.p (.v (.int .i64 ((a0.length : Int)))))), (12, .c (.p (.v (.int .i64 s2))))], [((4, 0), some (.box (List.map CV.p (e_api_Record v5))))]⟩ : St)) h (fun p12 h => ?_) (fun J12 L12 hL12 h => ?_)
              · refine sk fun L18 hL18 => tk fun L hL => u0 (Qo Z Z Z Z Z Z Z) ?_;obtain ⟨v19, hv19, h⟩ := h;refine u0 (Qd (Yg _ _ hv19) Z Z (.cons (.agg (.pp (.pp (.pp (.pp (.pp (.pp (.pp (.pp (.pp (.pp (.pp (.pp (.pp (.pp (.pp (.pp (.pp (.pp (.pp (.pp (.pp (.pp (.pp (.pp (.pp (.pp (.pp (.pp (.pp (.pp (.pp (.pp (.pp (.pp (.pp (.pp (.pp (.pp .nil))))))))))))))))))))))))))))))))))))))) .nil) Z Z Z) <| u0 (Qt Z Z Z) <| rt (hL _ ?_);refine QY Z h (fun h => ?_) fun h => ?_
                · refine tk fun L hL => Qr Z Z <| rt (hL _ ?_);obtain rfl := h;exact Qe (hQ _ _ (QX Z Z))
                · refine Qg (hL18 _ ?_);refine tk fun L hL => mv Z <| mv Z ?_;obtain ⟨hm20, h⟩ := h;refine u0 (JV hm20 Z Z Z Z Z Z Z Z) <| u0 (Qi Z Z Z Z) <| u0 (Q7 Z Z) <| rt (hL _ ?_);refine Ql ?_;refine ZK (fun (s21 : Int) => (⟨[(0, .c (.p (.l 38 (List.map e_api_Record a0)))), (4, .c (.ptr (4, 0) 0 0)), (10, .c (.p (.l 38 (List.map e_api_Record a0)))), (11, .c (.p (.v (.int .i64 ((a0.length : Int)))))), (12, .c (.p (.v (.int .i64 s2)))), (95, .c (.p (.l 38 (List.map e_api_Record (List.take (Int.toNat s2) a0))))), (96, .c (.p (.v (.int .i64 (((List.take (Int.toNat s2) a0).length : Int)))))), (97, .c (.p (.v (.int .i64 s21))))], [((4, 0), some (.box (List.map CV.p (e_api_Record v5))))]⟩ : St)) h (QG.nm [0, 4, 10, 11, 12, 95, 96, 97] [((4, 0), (4, 0))] Z (by kernel_rfl)) (fun X21 L21 hL21 s21 h => ?_);refine tk fun L hL => u0 (Q5 (c := decide (s21 < (((List.take (Int.toNat s2) a0).length : Int)))) Z Z Z Z Z) <| rt (hL _ ?_);refine sk fun L22 hL22 => ?_;refine QY Z h (fun h => ?_) fun h => ?_
                  · refine Qg (hL22 _ ?_);refine sk fun L23 hL23 => Ql <| tk fun L hL => ?_;obtain ⟨v24, hv24, h⟩ := h;refine u0 (Qk hv24 Z Z Z Z Z Z Z Z) <| u0 (Qy Z Z Z Z Z Z Z) <| u1 (Z8 Z Z Z) <| un (Zr Z Z Z Z Z Z Z Z Z) <| rt (hL _ ?_);refine tk fun L hL => u0 (Q2 Z Z Z Z Z Z Z Z Z) <| u0 (Q1 Z Z Z Z Z Z) <| u0 (Q5 (c := (v5.fb != (-1))) Z Z Z Z Z) <| mv Z <| Q3 Z Z Q9 (fun hg => Q2 Z Z Z Z Z Z Z Z Z) <| Q3 Z Z Q9 (fun hg => Q1 (Q8 hg) Z Z Z Z Z) <| Q3 Z Z Q9 (fun hg => Q2 Z Z Z Z Z Z Z Z Z) <| Q3 Z Z Q9 (fun hg => Q1 (Q8 hg) Z Z Z Z Z) <| Q3 Z Z Q9 (fun hg => Q5 (c := (v24.fb == v5.fb)) (Q8 hg) (Q8 hg) Z Z Z) <| u0 (Qa (v := .bool ((v24.fb == v5.fb))) (w := .bool false) Z Z Q9 Z Qf Z Z Z) <| mv Z <| Q3 Z Z Q6 (fun hg => Q2 Z Z Z Z Z Z Z Z Z) <| Q3 Z Z Q6 (fun hg => Q1 (Q8 hg) Z Z Z Z Z) <| Q3 Z Z Q6 (fun hg => Q5 (c := (v5.fa != (-1))) (Q8 hg) Z Z Z Z) <| Q3 Z Z Q6 (fun hg => Q7 (Q8 hg) Z) <| Qc Z Z Qh (fun hg => Q2 Z Z Z Z Z Z Z Z Z) <| Qc Z Z Qh (fun hg => Q1 (Q8 hg) Z Z Z Z Z) <| Qc Z Z Qh (fun hg => Q2 Z Z Z Z Z Z Z Z Z) <| Qc Z Z Qh (fun hg => Q1 (Q8 hg) Z Z Z Z Z) <| Qc Z Z Qh (fun hg => Q5 (c := (v24.fa == v5.fa)) (Q8 hg) (Q8 hg) Z Z Z) <| Q3 Z Z Q6 (fun hg => Qa (v := .bool ((v24.fa == v5.fa))) (w := .bool false) (Q8 hg) Z (Z5 hg) Z Qf Z Z Z) <| u0 (Qb (v := .bool true) (w := .bool ((bif (v5.fa != (-1)) then (v24.fa == v5.fa) else false))) Z Z Q6 Z Qf Z Z Z) ?_
                    refine rt (hL _ ?_);refine QY Z h (fun h => ?_) fun h => ?_
                    · refine tk fun L hL => Qr Z Z <| rt (hL _ ?_);obtain rfl := h;exact Qe (hQ _ _ (QX Z Z))
                    · refine Qg (hL23 _ ?_);refine QF (st' := ⟨[(0, .c (.p (.l 38 (List.map e_api_Record a0)))), (4, .c (.ptr (4, 0) 0 0)), (10, .c (.p (.l 38 (List.map e_api_Record a0)))), (11, .c (.p (.v (.int .i64 ((a0.length : Int)))))), (12, .c (.p (.v (.int .i64 s2)))), (95, .c (.p (.l 38 (List.map e_api_Record (List.take (Int.toNat s2) a0))))), (96, .c (.p (.v (.int .i64 (((List.take (Int.toNat s2) a0).length : Int)))))), (97, .c (.p (.v (.int .i64 s21))))], [((4, 0), some (.box (List.map CV.p (e_api_Record v5)))), ((9, 0), some (.box (List.map CV.p (e_api_Record v24))))]⟩) (QG.nm [0, 4, 10, 11, 12, 95, 96, 97] [((4, 0), (4, 0)), ((9, 0), (9, 0))] Z Z) ?_;refine tl fun L hL => u0 (QO Z Z Z Z Z) <| mv Z ?_;refine rt (hL _ (hL21 _ _ h (QG.nm [0, 4, 10, 11, 12, 95, 96, 97] [((4, 0), (4, 0))] Z (by kernel_rfl))))
                  · refine QM (hL4 _ _ h (QG.nm [0, 10, 11, 12] [] Z (by kernel_rfl)))
              · refine tk fun L hL => mv Z <| mv Z ?_;obtain ⟨hm13, h⟩ := h;refine u0 (JV hm13 Z Z Z Z Z Z Z Z) <| u0 (Qi Z Z Z Z) <| u0 (Q7 Z Z) <| rt (hL _ ?_);refine Ql ?_;refine ZK (fun (s14 : Int) => (⟨[(0, .c (.p (.l 38 (List.map e_api_Record a0)))), (3, .c (.p (.v (.int .i64 s2)))), (4, .c (.ptr (4, 0) 0 0)), (10, .c (.p (.l 38 (List.map e_api_Record a0)))), (11, .c (.p (.v (.int .i64 ((a0.length : Int)))))), (12, .c (.p (.v (.int .i64 s2)))), (66, .c (.p (.l 38 (List.map e_api_Record (List.take (Int.toNat s2) a0))))), (67, .c (.p (.v (.int .i64 (((List.take (Int.toNat s2) a0).length : Int)))))), (68, .c (.p (.v (.int .i64 s14))))], [((4, 0), some (.box (List.map CV.p (e_api_Record v5))))]⟩ : St)) h (QG.nm [0, 3, 4, 10, 11, 12, 66, 67, 68] [((4, 0), (4, 0))] Z (by kernel_rfl)) (fun X14 L14 hL14 s14 h => ?_);refine tk fun L hL => u0 (Q5 (c := decide (s14 < (((List.take (Int.toNat s2) a0).length : Int)))) Z Z Z Z Z) <| rt (hL _ ?_);refine sk fun L15 hL15 => ?_;refine QY Z h (fun h => ?_) fun h => ?_
                · refine Qg (hL15 _ ?_);refine sk fun L16 hL16 => Ql <| tk fun L hL => ?_;obtain ⟨v17, hv17, h⟩ := h;refine u0 (Qk hv17 Z Z Z Z Z Z Z Z) <| u0 (Qy Z Z Z Z Z Z Z) <| u1 (Z8 Z Z Z) <| un (Zr Z Z Z Z Z Z Z Z Z) <| rt (hL _ ?_);refine tk fun L hL => u0 (Q2 Z Z Z Z Z Z Z Z Z) <| u0 (Q1 Z Z Z Z Z Z) <| u0 (Q2 Z Z Z Z Z Z Z Z Z) <| u0 (Q1 Z Z Z Z Z Z) <| u0 (Q5 (c := (v17.fm == v5.fm)) Z Z Z Z Z) <| mv Z <| Q3 Z Z Q9 (fun hg => Q2 Z Z Z Z Z Z Z Z Z) <| Q3 Z Z Q9 (fun hg => Q1 (Q8 hg) Z Z Z Z Z) <| Q3 Z Z Q9 (fun hg => Q5 (c := (v17.fa == (-1))) (Q8 hg) Z Z Z Z) <| Q3 Z Z Q9 (fun hg => Q7 (Q8 hg) Z) <| Qc Z Z QC (fun hg => Q2 Z Z Z Z Z Z Z Z Z) <| Qc Z Z QC (fun hg => Q1 (Q8 hg) Z Z Z Z Z) <| Qc Z Z QC (fun hg => Q2 Z Z Z Z Z Z Z Z Z) <| Qc Z Z QC (fun hg => Q1 (Q8 hg) Z Z Z Z Z) <| Qc Z Z QC (fun hg => Q5 (c := decide (v17.fa ≥ v5.fk)) (Q8 hg) (Q8 hg) Z Z Z) <| Q3 Z Z Q9 (fun hg => Qb (v := .bool true) (w := .bool (decide (v17.fa ≥ v5.fk))) (Q8 hg) Z (Jg hg) Z Qf Z Z Z) <| u0 (Qa (v := .bool ((bif (v17.fa == (-1)) then true else decide (v17.fa ≥ v5.fk)))) (w := .bool false) Z Z Q9 Z Qf Z Z Z) <| rt (hL _ ?_)
                  refine QY Z h (fun h => ?_) fun h => ?_
                  · refine tk fun L hL => Qr Z Z <| rt (hL _ ?_);obtain rfl := h;exact Qe (hQ _ _ (QX Z Z))
                  · refine Qg (hL16 _ ?_);refine QF (st' := ⟨[(0, .c (.p (.l 38 (List.map e_api_Record a0)))), (3, .c (.p (.v (.int .i64 s2)))), (4, .c (.ptr (4, 0) 0 0)), (10, .c (.p (.l 38 (List.map e_api_Record a0)))), (11, .c (.p (.v (.int .i64 ((a0.length : Int)))))), (12, .c (.p (.v (.int .i64 s2)))), (66, .c (.p (.l 38 (List.map e_api_Record (List.take (Int.toNat s2) a0))))), (67, .c (.p (.v (.int .i64 (((List.take (Int.toNat s2) a0).length : Int)))))), (68, .c (.p (.v (.int .i64 s14))))], [((4, 0), some (.box (List.map CV.p (e_api_Record v5)))), ((7, 0), some (.box (List.map CV.p (e_api_Record v17))))]⟩) (QG.nm [0, 3, 4, 10, 11, 12, 66, 67, 68] [((4, 0), (4, 0)), ((7, 0), (7, 0))] Z Z) ?_;refine tl fun L hL => u0 (QO Z Z Z Z Z) <| mv Z ?_;refine rt (hL _ (hL14 _ _ h (QG.nm [0, 3, 4, 10, 11, 12, 66, 67, 68] [((4, 0), (4, 0))] Z (by kernel_rfl))))
                · refine QM (hL12 _ _ h (QG.nm [0, 3, 4, 10, 11, 12] [((4, 0), (4, 0))] Z (by kernel_rfl)))
    · refine QM (hL1 _ _ h (QG.nm [] [] Z (by kernel_rfl)))
def KL (a0 : Q4) (a1 : Q4) (Q : Bool → Prop) : Prop :=
 Q (((bif (a0.fa != (-1)) then decide (a0.fa < a1.fk) else false)))
def QT (a0 : Q4) (a1 : Q4) (r : Bool) : Prop := KL a0 a1 fun x => r = x
theorem K4 (a0 : Q4) (a1 : Q4) (r : Bool) (h : QT a0 a1 r) : Qq Try.prog 13 [.agg (e_api_Record a0), .agg (e_api_Record a1)] [.c (.p (.v (.bool r)))] [] := by
  refine Qp tb Try.func13 Z (by kernel_rfl) Z Z (Nat.le_of_ble_eq_true Z) Z ?_;intro E;unfold QT KL at h;refine Zx (fun Q hQ => ?_);refine tk fun L hL => u1 (QL Z Z) <| u1 (QL Z Z) <| Qr Z Z <| rt (hL _ ?_);refine tk fun L hL => u0 (Q2 Z Z Z Z Z Z Z Z Z) <| u0 (Q1 Z Z Z Z Z Z) <| u0 (Q5 (c := (a0.fa != (-1))) Z Z Z Z Z) <| mv Z <| Q3 Z Z Q9 (fun hg => Q2 Z Z Z Z Z Z Z Z Z) <| Q3 Z Z Q9 (fun hg => Q1 (Q8 hg) Z Z Z Z Z) <| Q3 Z Z Q9 (fun hg => Q2 Z Z Z Z Z Z Z Z Z) <| Q3 Z Z Q9 (fun hg => Q1 (Q8 hg) Z Z Z Z Z) <| Q3 Z Z Q9 (fun hg => Q5 (c := decide (a0.fa < a1.fk)) (Q8 hg) (Q8 hg) Z Z Z) <| u0 (Qa (v := .bool (decide (a0.fa < a1.fk))) (w := .bool false) Z Z Q9 Z Qf Z Z Z) <| Qr Z Z <| rt (hL _ ?_);obtain rfl := h;exact Qe (hQ _ _ (QX Z Z))
def Zl (a0 : (List Q4)) (a1 : (List Int)) (Q : Bool → Prop) : Prop :=
 jn (fun (p1 : Unit) => jn (fun (p8 : Unit) => Q true) (fun (J8 : Unit → Prop) => lp (fun (X9 : Int → Prop) (s9 : Int) => (((decide (s9 < ((a1.length : Int)))) = true → jn (fun (p11 : Unit) => X9 ((IntKind.i64.wrap (s9 + 1)))) (fun (J11 : Unit → Prop) => ∃ v12, ix a1 s9 v12 ∧ ((0 : Int) ≤ s9 ∧ (s9 : Int) ≤ (a1.length : Int)) ∧ lp (fun (X14 : Int → Prop) (s14 : Int) => (((decide (s14 < (((List.take (Int.toNat s9) a1).length : Int)))) = true → ∃ v17, ix (List.take (Int.toNat s9) a1) s14 v17 ∧ ∃ v18, ix a0 v12 v18 ∧ ∃ v19, ix a0 v17 v19 ∧ ∃ v20, QT v18 v19 v20 ∧ ((v20 = true → Q false) ∧ (v20 = false → X14 ((IntKind.i64.wrap (s14 + 1)))))) ∧ ((decide (s14 < (((List.take (Int.toNat s9) a1).length : Int)))) = false → J11 (())))) 0)) ∧ ((decide (s9 < ((a1.length : Int)))) = false → J8 (())))) 0)) (fun (J1 : Unit → Prop) => lp (fun (X2 : Int × (List Int) → Prop) (s2 : Int × (List Int)) => (((decide (s2.1 < ((a1.length : Int)))) = true → ∃ v5, ix a1 s2.1 v5 ∧ ((((bif (bif decide (v5 < 0) then true else decide (v5 ≥ ((a0.length : Int)))) then true else (List.contains s2.2 v5))) = true → Q false) ∧ (((bif (bif decide (v5 < 0) then true else decide (v5 ≥ ((a0.length : Int)))) then true else (List.contains s2.2 v5))) = false → (List.contains s2.2 v5 = false) ∧ X2 ((IntKind.i64.wrap (s2.1 + 1)), s2.2 ++ [v5])))) ∧ ((decide (s2.1 < ((a1.length : Int)))) = false → J1 (())))) (0, ([] : List Int)))
def QU (a0 : (List Q4)) (a1 : (List Int)) (r : Bool) : Prop := Zl a0 a1 fun x => r = x
theorem Xs {a0 : (List Q4)} {a1 : (List Int)} {Post : Bool → Prop} (h : Zl a0 a1 Post) : ∃ r, QU a0 a1 r ∧ Post r := (show GM (Zl a0 a1) (Zl a0 a1) from GM.join (fun p1 => GM.join (fun p8 => GM.ret _) (fun _ _ J8 => GM.loop (fun X Y Q s9 X9 h => ⟨fun hc => Uh (h.1 hc) (fun p11 h => X9 _ h) (fun _ _ J11 h => (Exists.elim h fun v12 hv12 => ⟨v12, hv12.1, ⟨hv12.2.1, Ui hv12.2.2 (fun _ _ X14 s14 h => ⟨fun hc => (Exists.elim (h.1 hc) fun v17 hv17 => ⟨v17, hv17.1, (Exists.elim hv17.2 fun v18 hv18 => ⟨v18, hv18.1, (Exists.elim hv18.2 fun v19 hv19 => ⟨v19, hv19.1, (Exists.elim hv19.2 fun v20 hv20 => ⟨v20, hv20.1, ⟨fun hc => hv20.2.1 hc, fun hc => X14 _ (hv20.2.2 hc)⟩⟩)⟩)⟩)⟩), fun hc => J11 _ (h.2 hc)⟩)⟩⟩)), fun hc => h.2 hc⟩) (fun _ _ X9 s9 => GM.cond (GM.join (fun p11 => X9 _) (fun _ _ J11 => GM.ex fun v12 => GM.and (GM.loop (fun X Y Q s14 X14 h => ⟨fun hc => (Exists.elim (h.1 hc) fun v17 hv17 => ⟨v17, hv17.1, (Exists.elim hv17.2 fun v18 hv18 => ⟨v18, hv18.1, (Exists.elim hv18.2 fun v19 hv19 => ⟨v19, hv19.1, (Exists.elim hv19.2 fun v20 hv20 => ⟨v20, hv20.1, ⟨fun hc => hv20.2.1 hc, fun hc => X14 _ (hv20.2.2 hc)⟩⟩)⟩)⟩)⟩), fun hc => h.2 hc⟩) (fun _ _ X14 s14 => GM.cond (GM.ex fun v17 => GM.ex fun v18 => GM.ex fun v19 => GM.ex fun v20 => GM.cond (GM.ret _) (X14 _)) (J11 _))))) (J8 _)))) (fun _ _ J1 => GM.loop (fun X Y Q s2 X2 h => ⟨fun hc => (Exists.elim (h.1 hc) fun v5 hv5 => ⟨v5, hv5.1, ⟨fun hc => hv5.2.1 hc, fun hc => ⟨(hv5.2.2 hc).1, X2 _ ((hv5.2.2 hc).2)⟩⟩⟩), fun hc => h.2 hc⟩) (fun _ _ X2 s2 => GM.cond (GM.ex fun v5 => GM.cond (GM.ret _) (GM.and (X2 _))) (J1 _)))) Post h
theorem K5 (a0 : (List Q4)) (a1 : (List Int)) (r : Bool) (h : QU a0 a1 r) : Qq Try.prog 11 [.c (.l 38 (List.map e_api_Record a0)), .c (.l 1 (List.map (eI .i64) a1))] [.c (.p (.v (.bool r)))] [] := by
  refine Qp tb Try.func11 Z (by kernel_rfl) Z Z (Nat.le_of_ble_eq_true Z) Z ?_;intro E;unfold QU Zl at h;refine Zx (fun Q hQ => ?_);refine tk fun L hL => Qr Z Z <| rt (hL _ ?_);refine tk fun L hL => u1 (Dw Try.underlying52) <| Qr Z Z <| rt (hL _ ?_);refine Zo (fun (p1 : Unit) => (⟨[(0, .c (.p (.l 38 (List.map e_api_Record a0)))), (1, .c (.p (.l 1 (List.map (eI .i64) a1))))], []⟩ : St)) h (fun p1 h => ?_) (fun J1 L1 hL1 h => ?_)
  · refine Zo (fun (p8 : Unit) => (⟨[], []⟩ : St)) h (fun p8 h => ?_) (fun J8 L8 hL8 h => ?_)
    · refine tk fun L hL => Qr Z Z <| rt (hL _ ?_);obtain rfl := h;exact Qe (hQ _ _ (QX Z Z))
    · refine tk fun L hL => mv Z <| u0 (Qi Z Z Z Z) <| u0 (Q7 Z Z) <| rt (hL _ ?_);refine Ql ?_;refine ZK (fun (s9 : Int) => (⟨[(0, .c (.p (.l 38 (List.map e_api_Record a0)))), (1, .c (.p (.l 1 (List.map (eI .i64) a1)))), (35, .c (.p (.l 1 (List.map (eI .i64) a1)))), (36, .c (.p (.v (.int .i64 ((a1.length : Int)))))), (37, .c (.p (.v (.int .i64 s9))))], []⟩ : St)) h (QG.nm [0, 1, 35, 36, 37] [] Z (by kernel_rfl)) (fun X9 L9 hL9 s9 h => ?_);refine tk fun L hL => u0 (Q5 (c := decide (s9 < ((a1.length : Int)))) Z Z Z Z Z) <| rt (hL _ ?_);refine sk fun L10 hL10 => ?_;refine QY Z h (fun h => ?_) fun h => ?_
      · refine Qg (hL10 _ ?_);refine Zo (fun (p11 : Unit) => (⟨[(0, .c (.p (.l 38 (List.map e_api_Record a0)))), (1, .c (.p (.l 1 (List.map (eI .i64) a1)))), (35, .c (.p (.l 1 (List.map (eI .i64) a1)))), (36, .c (.p (.v (.int .i64 ((a1.length : Int)))))), (37, .c (.p (.v (.int .i64 s9))))], []⟩ : St)) h (fun p11 h => ?_) (fun J11 L11 hL11 h => ?_)
        · refine tl fun L hL => u0 (QO Z Z Z Z Z) <| mv Z ?_;refine rt (hL _ (hL9 _ _ h (QG.nm [0, 1, 35, 36, 37] [] Z (by kernel_rfl))))
        · refine Ql <| tk fun L hL => mv Z ?_;obtain ⟨v12, hv12, h⟩ := h;refine u0 (Qk hv12 Z Z Z Z Z Z Z Z) <| u0 (Qn Z Z Z Z Z) <| Qr Z Z <| Qr Z Z <| rt (hL _ ?_);refine tk fun L hL => mv Z <| mv Z ?_;obtain ⟨hm13, h⟩ := h;refine u0 (JV hm13 Z Z Z Z Z Z Z Z) <| u0 (Qi Z Z Z Z) <| u0 (Q7 Z Z) <| rt (hL _ ?_);refine Ql ?_;refine ZK (fun (s14 : Int) => (⟨[(0, .c (.p (.l 38 (List.map e_api_Record a0)))), (1, .c (.p (.l 1 (List.map (eI .i64) a1)))), (9, .c (.p (.v (.int .i64 v12)))), (35, .c (.p (.l 1 (List.map (eI .i64) a1)))), (36, .c (.p (.v (.int .i64 ((a1.length : Int)))))), (37, .c (.p (.v (.int .i64 s9)))), (44, .c (.p (.l 1 (List.map (eI .i64) (List.take (Int.toNat s9) a1))))), (45, .c (.p (.v (.int .i64 (((List.take (Int.toNat s9) a1).length : Int)))))), (46, .c (.p (.v (.int .i64 s14))))], []⟩ : St)) h (QG.nm [0, 1, 9, 35, 36, 37, 44, 45, 46] [] Z (by kernel_rfl)) (fun X14 L14 hL14 s14 h => ?_);refine tk fun L hL => u0 (Q5 (c := decide (s14 < (((List.take (Int.toNat s9) a1).length : Int)))) Z Z Z Z Z) <| rt (hL _ ?_);refine sk fun L15 hL15 => ?_;refine QY Z h (fun h => ?_) fun h => ?_
          · refine Qg (hL15 _ ?_);refine sk fun L16 hL16 => Ql <| tk fun L hL => ?_;obtain ⟨v17, hv17, h⟩ := h;refine u0 (Qk hv17 Z Z Z Z Z Z Z Z) <| u0 (Qn Z Z Z Z Z) <| Qr Z Z <| rt (hL _ ?_);refine dk mixed (fun L hL => ?_);refine mv Z <| mv Z ?_;obtain ⟨v18, hv18, h⟩ := h;refine u0 (Qk hv18 Z Z Z Z Z Z Z Z) <| u0 (Qy Z Z Z Z Z Z Z) <| mv Z <| mv Z ?_;obtain ⟨v19, hv19, h⟩ := h;refine u0 (Qk hv19 Z Z Z Z Z Z Z Z) <| u0 (Qy Z Z Z Z Z Z Z) ?_;obtain ⟨v20, hv20, h⟩ := h;refine u0 (Qd (K4 _ _ _ hv20) Z Z (.cons (.agg (.pp (.pp (.pp (.pp (.pp (.pp (.pp (.pp (.pp (.pp (.pp (.pp (.pp (.pp (.pp (.pp (.pp (.pp (.pp (.pp (.pp (.pp (.pp (.pp (.pp (.pp (.pp (.pp (.pp (.pp (.pp (.pp (.pp (.pp (.pp (.pp (.pp (.pp .nil))))))))))))))))))))))))))))))))))))))) (.cons (.agg (.pp (.pp (.pp (.pp (.pp (.pp (.pp (.pp (.pp (.pp (.pp (.pp (.pp (.pp (.pp (.pp (.pp (.pp (.pp (.pp (.pp (.pp (.pp (.pp (.pp (.pp (.pp (.pp (.pp (.pp (.pp (.pp (.pp (.pp (.pp (.pp (.pp (.pp .nil))))))))))))))))))))))))))))))))))))))) .nil)) Z Z Z) <| rd (hL _ ?_);refine QY Z h (fun h => ?_) fun h => ?_
            · refine tk fun L hL => Qr Z Z <| rt (hL _ ?_);obtain rfl := h;exact Qe (hQ _ _ (QX Z Z))
            · refine Qg (hL16 _ ?_);refine tl fun L hL => u0 (QO Z Z Z Z Z) <| mv Z ?_;refine rt (hL _ (hL14 _ _ h (QG.nm [0, 1, 9, 35, 36, 37, 44, 45, 46] [] Z (by kernel_rfl))))
          · refine QM (hL11 _ _ h (QG.nm [0, 1, 35, 36, 37] [] Z (by kernel_rfl)))
      · refine QM (hL8 _ _ h (QG.nm [] [] Z (by kernel_rfl)))
  · refine tk fun L hL => mv Z <| u0 (Qi Z Z Z Z) <| u0 (Q7 Z Z) <| rt (hL _ ?_);refine Ql ?_;refine ZK (fun (s2 : Int × (List Int)) => (⟨[(0, .c (.p (.l 38 (List.map e_api_Record a0)))), (1, .c (.p (.l 1 (List.map (eI .i64) a1)))), (5, .c (.mp (12, 0))), (13, .c (.p (.l 1 (List.map (eI .i64) a1)))), (14, .c (.p (.v (.int .i64 ((a1.length : Int)))))), (15, .c (.p (.v (.int .i64 s2.1))))], [((12, 0), some (.map s2.2))]⟩ : St)) h (QG.nm [0, 1, 5, 13, 14, 15] [((12, 0), (12, 0))] Z (by kernel_rfl)) (fun X2 L2 hL2 s2 h => ?_);refine tk fun L hL => u0 (Q5 (c := decide (s2.1 < ((a1.length : Int)))) Z Z Z Z Z) <| rt (hL _ ?_);refine sk fun L3 hL3 => ?_;refine QY Z h (fun h => ?_) fun h => ?_
    · refine Qg (hL3 _ ?_);refine sk fun L4 hL4 => Ql <| tk fun L hL => ?_;obtain ⟨v5, hv5, h⟩ := h;refine u0 (Qk hv5 Z Z Z Z Z Z Z Z) <| u0 (Qn Z Z Z Z Z) <| Qr Z Z <| rt (hL _ ?_);refine sk fun L6 hL6 => tk fun L hL => mv Z <| u0 (Q5 (c := decide (v5 < 0)) Z Z Z Z Z) <| mv Z <| Q3 Z Z Q6 (fun hg => Q7 Z Z) <| Q3 Z Z Q6 (fun hg => Q7 Z Z) <| Q3 Z Z Q6 (fun hg => Qi (Q8 hg) Z Z Z) <| Q3 Z Z Q6 (fun hg => Q5 (c := decide (v5 ≥ ((a0.length : Int)))) (Q8 hg) (Q8 hg) Z Z Z) <| u0 (Qb (v := .bool true) (w := .bool (decide (v5 ≥ ((a0.length : Int))))) Z Z Q6 Z Qf Z Z Z) <| mv Z <| Q3 Z Z Q6 (fun hg => Q7 Z Z) <| Q3 Z Z Q6 (fun hg => Q7 Z Z) ?_;refine Q3 Z Z Q6 (fun hg => Dx Try.underlying52 Try.underlying3 (fun _ => by kernel_rfl) (Q8 hg) Z (Q8 hg) Z Z) ?_;refine u0 (Qb (v := .bool true) (w := .bool ((List.contains s2.2 v5))) Z Z Q6 Z Qf Z Z Z) <| rt (hL _ ?_);refine QY Z h (fun h => ?_) fun h => ?_
      · refine tk fun L hL => Qr Z Z <| rt (hL _ ?_);obtain rfl := h;exact Qe (hQ _ _ (QX Z Z))
      · refine Qg (hL6 _ ?_);refine QF (st' := ⟨[(0, .c (.p (.l 38 (List.map e_api_Record a0)))), (1, .c (.p (.l 1 (List.map (eI .i64) a1)))), (5, .c (.mp (12, 0))), (13, .c (.p (.l 1 (List.map (eI .i64) a1)))), (14, .c (.p (.v (.int .i64 ((a1.length : Int)))))), (15, .c (.p (.v (.int .i64 s2.1)))), (7, .c (.p (.v (.int .i64 v5))))], [((12, 0), some (.map s2.2))]⟩) (QG.nm [0, 1, 5, 13, 14, 15, 7] [((12, 0), (12, 0))] Z Z) ?_;refine tl fun L hL => mv Z <| mv Z ?_;obtain ⟨hm7, h⟩ := h;refine un (Cu hm7 Try.underlying52 Try.underlying3 Z Z Z Z Z Z Z) <| rt (hL _ (hL4 _ ?_));refine tl fun L hL => u0 (QO Z Z Z Z Z) <| mv Z ?_;refine rt (hL _ (hL2 _ _ h (QG.nm [0, 1, 5, 13, 14, 15] [((12, 0), (12, 0))] Z (by kernel_rfl))))
    · refine QM (hL1 _ _ h (QG.nm [0, 1] [] Z (by kernel_rfl)))
def JZ  (Q : Bool → Prop) : Prop :=
 ∃ v1, ZI ([(Q4.mk 0 (Qu.mk 4 ByteArray.empty ByteArray.empty ([] : (List ByteArray)) (Qw.mk 0 0 0 0) ([] : (List Qv)) ([] : (List Int)) 0 0 0 0 0 0 (QB.mk 0 ByteArray.empty 0 0 0) ([] : (List Int))) 0 1 1 (Qj.mk 0 0 0 0 ([] : (List ByteArray)) (Qs.mk 0 0 ByteArray.empty ([] : (List Int)) ([] : (List Qx)) false) ([] : (List Int)))), (Q4.mk 0 (Qu.mk 4 ByteArray.empty ByteArray.empty ([] : (List ByteArray)) (Qw.mk 0 0 0 0) ([] : (List Qv)) ([] : (List Int)) 0 0 0 0 0 0 (QB.mk 0 ByteArray.empty 0 0 0) ([] : (List Int))) 2 3 3 (Qj.mk 0 0 0 0 ([] : (List ByteArray)) (Qs.mk 0 0 ByteArray.empty ([] : (List Int)) ([] : (List Qx)) false) ([] : (List Int))))]) v1 ∧ ∃ v2, QT (Q4.mk 0 (Qu.mk 4 ByteArray.empty ByteArray.empty ([] : (List ByteArray)) (Qw.mk 0 0 0 0) ([] : (List Qv)) ([] : (List Int)) 0 0 0 0 0 0 (QB.mk 0 ByteArray.empty 0 0 0) ([] : (List Int))) 0 1 1 (Qj.mk 0 0 0 0 ([] : (List ByteArray)) (Qs.mk 0 0 ByteArray.empty ([] : (List Int)) ([] : (List Qx)) false) ([] : (List Int)))) (Q4.mk 0 (Qu.mk 4 ByteArray.empty ByteArray.empty ([] : (List ByteArray)) (Qw.mk 0 0 0 0) ([] : (List Qv)) ([] : (List Int)) 0 0 0 0 0 0 (QB.mk 0 ByteArray.empty 0 0 0) ([] : (List Int))) 2 3 3 (Qj.mk 0 0 0 0 ([] : (List ByteArray)) (Qs.mk 0 0 ByteArray.empty ([] : (List Int)) ([] : (List Qx)) false) ([] : (List Int)))) v2 ∧ ∃ (v3 : Bool), (v2 = true → QT (Q4.mk 0 (Qu.mk 4 ByteArray.empty ByteArray.empty ([] : (List ByteArray)) (Qw.mk 0 0 0 0) ([] : (List Qv)) ([] : (List Int)) 0 0 0 0 0 0 (QB.mk 0 ByteArray.empty 0 0 0) ([] : (List Int))) 2 3 3 (Qj.mk 0 0 0 0 ([] : (List ByteArray)) (Qs.mk 0 0 ByteArray.empty ([] : (List Int)) ([] : (List Qx)) false) ([] : (List Int)))) (Q4.mk 0 (Qu.mk 4 ByteArray.empty ByteArray.empty ([] : (List ByteArray)) (Qw.mk 0 0 0 0) ([] : (List Qv)) ([] : (List Int)) 0 0 0 0 0 0 (QB.mk 0 ByteArray.empty 0 0 0) ([] : (List Int))) 0 1 1 (Qj.mk 0 0 0 0 ([] : (List ByteArray)) (Qs.mk 0 0 ByteArray.empty ([] : (List Int)) ([] : (List Qx)) false) ([] : (List Int)))) v3) ∧ ∃ (v4 : Int), (((bif (bif v2 then !(v3) else false) then (((v1.length : Int)) == 2) else false)) = true → ix v1 0 v4) ∧ ∃ (v5 : Bool), (((bif (bif (bif v2 then !(v3) else false) then (((v1.length : Int)) == 2) else false) then (v4 == 0) else false)) = true → QU ([(Q4.mk 0 (Qu.mk 4 ByteArray.empty ByteArray.empty ([] : (List ByteArray)) (Qw.mk 0 0 0 0) ([] : (List Qv)) ([] : (List Int)) 0 0 0 0 0 0 (QB.mk 0 ByteArray.empty 0 0 0) ([] : (List Int))) 0 1 1 (Qj.mk 0 0 0 0 ([] : (List ByteArray)) (Qs.mk 0 0 ByteArray.empty ([] : (List Int)) ([] : (List Qx)) false) ([] : (List Int)))), (Q4.mk 0 (Qu.mk 4 ByteArray.empty ByteArray.empty ([] : (List ByteArray)) (Qw.mk 0 0 0 0) ([] : (List Qv)) ([] : (List Int)) 0 0 0 0 0 0 (QB.mk 0 ByteArray.empty 0 0 0) ([] : (List Int))) 2 3 3 (Qj.mk 0 0 0 0 ([] : (List ByteArray)) (Qs.mk 0 0 ByteArray.empty ([] : (List Int)) ([] : (List Qx)) false) ([] : (List Int))))]) v1 v5) ∧ ((((bif (bif (bif (bif v2 then !(v3) else false) then (((v1.length : Int)) == 2) else false) then (v4 == 0) else false) then v5 else false)) = true → ∃ v6, QU ([(Q4.mk 0 (Qu.mk 4 ByteArray.empty ByteArray.empty ([] : (List ByteArray)) (Qw.mk 0 0 0 0) ([] : (List Qv)) ([] : (List Int)) 0 0 0 0 0 0 (QB.mk 0 ByteArray.empty 0 0 0) ([] : (List Int))) 0 1 1 (Qj.mk 0 0 0 0 ([] : (List ByteArray)) (Qs.mk 0 0 ByteArray.empty ([] : (List Int)) ([] : (List Qx)) false) ([] : (List Int)))), (Q4.mk 0 (Qu.mk 4 ByteArray.empty ByteArray.empty ([] : (List ByteArray)) (Qw.mk 0 0 0 0) ([] : (List Qv)) ([] : (List Int)) 0 0 0 0 0 0 (QB.mk 0 ByteArray.empty 0 0 0) ([] : (List Int))) 2 3 3 (Qj.mk 0 0 0 0 ([] : (List ByteArray)) (Qs.mk 0 0 ByteArray.empty ([] : (List Int)) ([] : (List Qx)) false) ([] : (List Int))))]) ([1, 0]) v6 ∧ ∃ (v7 : Int), ((!(v6)) = true → Zk ([(Q4.mk 0 (Qu.mk 4 ByteArray.empty ByteArray.empty ([] : (List ByteArray)) (Qw.mk 0 0 0 0) ([] : (List Qv)) ([] : (List Int)) 0 0 0 0 0 0 (QB.mk 0 ByteArray.empty 0 0 0) ([] : (List Int))) 0 1 1 (Qj.mk 0 0 0 0 ([] : (List ByteArray)) (Qs.mk 0 0 ByteArray.empty ([] : (List Int)) ([] : (List Qx)) false) ([] : (List Int)))), (Q4.mk 0 (Qu.mk 4 ByteArray.empty ByteArray.empty ([] : (List ByteArray)) (Qw.mk 0 0 0 0) ([] : (List Qv)) ([] : (List Int)) 0 0 0 0 0 0 (QB.mk 0 ByteArray.empty 0 0 0) ([] : (List Int))) 2 3 3 (Qj.mk 0 0 0 0 ([] : (List ByteArray)) (Qs.mk 0 0 ByteArray.empty ([] : (List Int)) ([] : (List Qx)) false) ([] : (List Int))))]) v7) ∧ Q (((bif !(v6) then (v7 == 0) else false)))) ∧ (((bif (bif (bif (bif v2 then !(v3) else false) then (((v1.length : Int)) == 2) else false) then (v4 == 0) else false) then v5 else false)) = false → Q false))
def Kh  (r : Bool) : Prop := JZ  fun x => r = x
theorem Xi  (r : Bool) (h : Kh  r) : Qq Try.prog 5 [] [.c (.p (.v (.bool r)))] [] := by
  refine Qp tb Try.func5 Z (by kernel_rfl) Z Z (Nat.le_of_ble_eq_true Z) Z ?_;intro E;unfold Kh JZ at h;refine Zx (fun Q hQ => ?_);refine tk fun L hL => Qr Z Z <| rt (hL _ ?_);refine tk fun L hL => u0 (ZE Z Z Z Z Z Z Z) <| u0 (ZE Z Z Z Z Z Z Z) <| u1 (Z8 Z Z Z) <| un (Zr Z Z Z Z Z Z Z Z Z) <| rt (hL _ ?_);refine tk fun L hL => u0 (ZE Z Z Z Z Z Z Z) <| u0 (ZE Z Z Z Z Z Z Z) <| u1 (Z8 Z Z Z) <| un (Zr Z Z Z Z Z Z Z Z Z) <| rt (hL _ ?_);refine tk fun L hL => u0 (Qo Z Z Z Z Z Z Z) <| u0 (Qo Z Z Z Z Z Z Z) <| ul (Wg (rows := List.map e_api_Record [(Q4.mk 0 (Qu.mk 4 ByteArray.empty ByteArray.empty ([] : (List ByteArray)) (Qw.mk 0 0 0 0) ([] : (List Qv)) ([] : (List Int)) 0 0 0 0 0 0 (QB.mk 0 ByteArray.empty 0 0 0) ([] : (List Int))) 0 1 1 (Qj.mk 0 0 0 0 ([] : (List ByteArray)) (Qs.mk 0 0 ByteArray.empty ([] : (List Int)) ([] : (List Qx)) false) ([] : (List Int)))), (Q4.mk 0 (Qu.mk 4 ByteArray.empty ByteArray.empty ([] : (List ByteArray)) (Qw.mk 0 0 0 0) ([] : (List Qv)) ([] : (List Int)) 0 0 0 0 0 0 (QB.mk 0 ByteArray.empty 0 0 0) ([] : (List Int))) 2 3 3 (Qj.mk 0 0 0 0 ([] : (List ByteArray)) (Qs.mk 0 0 ByteArray.empty ([] : (List Int)) ([] : (List Qx)) false) ([] : (List Int))))]) Z Z Z Z Z Z Z Z Z (.c (.c (.c (.c (.cons (.nil _) (.c (.c (.c (.c (.cons (.nil _) (.cons (.nil _) (.c (.c (.c (.c (.c (.c (.c (.c (.c (.c (.c (.cons (.nil _) (.c (.c (.c (.c (.c (.c (.c (.cons (.nil _) (.c (.c (.c (.cons (.nil _) (.cons (.nil _) (.c (.cons (.nil _) (.c (.c (.c (.c (.cons (.nil _) (.c (.c (.c (.c (.cons (.nil _) (.cons (.nil _) (.c (.c (.c (.c (.c (.c (.c (.c (.c (.c (.c (.cons (.nil _) (.c (.c (.c (.c (.c (.c (.c (.cons (.nil _) (.c (.c (.c (.cons (.nil _) (.cons (.nil _) (.c (.cons (.nil _) .nil)))))))))))))))))))))))))))))))))))))))))))))))))))))))))))))))))))))))))))) Z Z Z) ?_
  refine Qr Z Z <| rt (hL _ ?_);refine tk fun L hL => mv Z ?_;obtain ⟨v1, hv1, h⟩ := h;refine ul (QR (VB _ _ hv1) (Vb (ZL.cons (.o (Dt nl_eI)) ZL.nil)) Z Z (.cons (.c (.fr Z (Z6 Z))) .nil) Z Z Z) <| Qr Z Z <| rt (hL _ ?_);refine tk fun L hL => u0 (Qo Z Z Z Z Z Z Z) <| u0 (Qo Z Z Z Z Z Z Z) ?_;obtain ⟨v2, hv2, h⟩ := h;refine u0 (Qd (K4 _ _ _ hv2) Z Z (.cons (.agg (.pp (.pp (.pp (.pp (.cons (.nil _) (.pp (.pp (.pp (.pp (.cons (.nil _) (.cons (.nil _) (.pp (.pp (.pp (.pp (.pp (.pp (.pp (.pp (.pp (.pp (.pp (.cons (.nil _) (.pp (.pp (.pp (.pp (.pp (.pp (.pp (.cons (.nil _) (.pp (.pp (.pp (.cons (.nil _) (.cons (.nil _) (.pp (.cons (.nil _) .nil))))))))))))))))))))))))))))))))))))))) (.cons (.agg (.pp (.pp (.pp (.pp (.cons (.nil _) (.pp (.pp (.pp (.pp (.cons (.nil _) (.cons (.nil _) (.pp (.pp (.pp (.pp (.pp (.pp (.pp (.pp (.pp (.pp (.pp (.cons (.nil _) (.pp (.pp (.pp (.pp (.pp (.pp (.pp (.cons (.nil _) (.pp (.pp (.pp (.cons (.nil _) (.cons (.nil _) (.pp (.cons (.nil _) .nil))))))))))))))))))))))))))))))))))))))) .nil)) Z Z Z) <| mv Z <| Q3 Z Z Q9 (fun hg => Qo Z Z Z Z Z Z Z) <| Q3 Z Z Q9 (fun hg => Qo Z Z Z Z Z Z Z) ?_
  obtain ⟨v3, hv3, h⟩ := h;refine Q3 Z Z Q9 (fun hg => Qd (K4 _ _ _ (hv3 hg)) Z Z (.cons (QS hg (.agg (.pp (.pp (.pp (.pp (.cons (.nil _) (.pp (.pp (.pp (.pp (.cons (.nil _) (.cons (.nil _) (.pp (.pp (.pp (.pp (.pp (.pp (.pp (.pp (.pp (.pp (.pp (.cons (.nil _) (.pp (.pp (.pp (.pp (.pp (.pp (.pp (.cons (.nil _) (.pp (.pp (.pp (.cons (.nil _) (.cons (.nil _) (.pp (.cons (.nil _) .nil)))))))))))))))))))))))))))))))))))))))) (.cons (QS hg (.agg (.pp (.pp (.pp (.pp (.cons (.nil _) (.pp (.pp (.pp (.pp (.cons (.nil _) (.cons (.nil _) (.pp (.pp (.pp (.pp (.pp (.pp (.pp (.pp (.pp (.pp (.pp (.cons (.nil _) (.pp (.pp (.pp (.pp (.pp (.pp (.pp (.cons (.nil _) (.pp (.pp (.pp (.cons (.nil _) (.cons (.nil _) (.pp (.cons (.nil _) .nil)))))))))))))))))))))))))))))))))))))))) .nil)) Z Z Z) <| Q3 Z Z Q9 (fun hg => Qt (Q8 hg) Z Z) <| u0 (Qa (v := .bool (!(v3))) (w := .bool false) Z Z Q9 Z Qf Z Z Z) <| mv Z <| Q3 Z Z Q9 (fun hg => Q7 Z Z) <| Q3 Z Z Q9 (fun hg => VP (Q8 hg) Z Z Z Z Z) <| Q3 Z Z Q9 (fun hg => Q5 (c := (((v1.length : Int)) == 2)) (Q8 hg) Z Z Z Z) <| u0 (Qa (v := .bool ((((v1.length : Int)) == 2))) (w := .bool false) Z Z Q9 Z Qf Z Z Z) <| mv Z <| Q3 Z Z Q9 (fun hg => Q7 Z Z) ?_
  obtain ⟨v4, hv4, h⟩ := h;refine Q3 Z Z Q9 (fun hg => Zf (hv4 hg) (Q8 hg) Z Z Z Z Z Z Z Z Z) <| Q3 Z Z Q9 (fun hg => Zg (Q8 hg) Z (gm (hv4 hg).2) Z Z Z Z) <| Q3 Z Z Q9 (fun hg => Q5 (c := (v4 == 0)) (Q8 hg) Z Z Z Z) <| u0 (Qa (v := .bool ((v4 == 0))) (w := .bool false) Z Z Q9 Z Qf Z Z Z) <| mv Z <| Q3 Z Z Q9 (fun hg => Q7 Z Z) <| Q3 Z Z Q9 (fun hg => Q7 Z Z) ?_;obtain ⟨v5, hv5, h⟩ := h;refine Q3 Z Z Q9 (fun hg => QR (K5 _ _ _ (hv5 hg)) (Vb (ZL.cons (.p Z) ZL.nil)) Z Z (.cons (QS hg (.c (.fr Z (Z6 Z)))) (.cons (QS hg (.c (.fr Z (Z6 Z)))) .nil)) Z Z Z) <| u0 (Qa (v := .bool v5) (w := .bool false) Z Z Q9 Z Qf Z Z Z) <| mv Z <| Q3 Z Z Q9 (fun hg => Q7 Z Z) ?_;rcases Bool.eq_false_or_eq_true ((bif (bif (bif (bif v2 then !(v3) else false) then (((v1.length : Int)) == 2) else false) then (v4 == 0) else false) then v5 else false)) with hs | hs
  · replace h := h.1 hs;rewrite [hs]
    (have hq := hs; repeat (replace hq := Eo hq; rewrite [hq]))
    refine Uc Z (QE (rows := List.map (eI .i64) [1, 0]) Z Z Z Z Z Z Z Z Z Z Z Z Z) ?_;obtain ⟨v6, hv6, h⟩ := h;refine Uc Z (QR (K5 _ _ _ hv6) (Vb (ZL.cons (.p Z) ZL.nil)) Z Z (.cons (.c (.fr Z (Z6 Z))) (.cons (.c (.fr Z (Z6 Z))) .nil)) Z Z Z) <| YO Z (Qt Z Z Z) <| u0 (Aw Z Z Z Z Z) <| mv Z <| Q3 Z Z Q9 (fun hg => Q7 Z Z) ?_;obtain ⟨v7, hv7, h⟩ := h;refine Q3 Z Z Q9 (fun hg => QR (JB _ _ (hv7 hg)) (Vb (ZL.cons (.p Z) ZL.nil)) Z Z (.cons (QS hg (.c (.fr Z (Z6 Z)))) .nil) Z Z Z) <| Q3 Z Z Q9 (fun hg => Q5 (c := (v7 == 0)) (Q8 hg) Z Z Z Z) <| u0 (Qa (v := .bool ((v7 == 0))) (w := .bool false) Z Z Q9 Z Qf Z Z Z) <| Qr Z Z <| rt (hL _ ?_);refine QF (st' := ⟨[(0, .c (.p (.v (.bool ((bif !(v6) then (v7 == 0) else false))))))], []⟩) (QG.nm [0] [] Z Z) ?_;obtain rfl := h;exact Qe (hQ _ _ (QX Z Z))
  · replace h := h.2 hs;rewrite [hs];refine V9 Z <| V9 Z <| V9 Z <| u0 (W7 Z Z Z Z Z) <| mv Z <| V9 Z <| V9 Z <| V9 Z <| u0 (W7 Z Z Z Z Z) <| Qr Z Z <| rt (hL _ ?_);refine QF (st' := ⟨[(0, .c (.p (.v (.bool false))))], []⟩) (QG.nm [0] [] Z Z) ?_;obtain rfl := h;exact Qe (hQ _ _ (QX Z Z))
def V0 (a0 : (List Q4)) (Q : ((List Int)) → Prop) : Prop :=
 jn (fun (p1 : (List Int)) => Q p1) (fun (J1 : (List Int) → Prop) => lp (fun (X2 : (List Int) × Int → Prop) (s2 : (List Int) × Int) => (((decide (s2.2 < ((a0.length : Int)))) = true → jn (fun (p4 : (List Int)) => X2 (p4, (IntKind.i64.wrap (s2.2 + 1)))) (fun (J4 : (List Int) → Prop) => ∃ v6, ix a0 s2.2 v6 ∧ ∃ (v7 : Q4), ((!((v6.fb == (-1)))) = true → ix a0 s2.2 v7) ∧ ((((bif (v6.fb == (-1)) then true else (v7.fh.fa0 == 14))) = true → J4 s2.1) ∧ (((bif (v6.fb == (-1)) then true else (v7.fh.fa0 == 14))) = false → ((s2.1.length + ([s2.2]).length) * 8 ≤ 140737488355328) ∧ lp (fun (X9 : (List Int) × Int → Prop) (s9 : (List Int) × Int) => ∃ (v11 : Int), ((decide (s9.2 > 0)) = true → ix s9.1 s9.2 v11) ∧ ∃ (v12 : Q4), ((decide (s9.2 > 0)) = true → ix a0 v11 v12) ∧ ∃ (v13 : Int), ((decide (s9.2 > 0)) = true → ix s9.1 (IntKind.i64.wrap (s9.2 - 1)) v13) ∧ ∃ (v14 : Q4), ((decide (s9.2 > 0)) = true → ix a0 v13 v14) ∧ ((((bif decide (s9.2 > 0) then decide (v12.fb < v14.fb) else false)) = true → ∃ v16, ix s9.1 (IntKind.i64.wrap (s9.2 - 1)) v16 ∧ ∃ v17, ix s9.1 s9.2 v17 ∧ ∃ v18, ix s9.1 s9.2 v18 ∧ ∃ v19, ix (List.set s9.1 (Int.toNat s9.2) v16) (IntKind.i64.wrap (s9.2 - 1)) v19 ∧ X9 ((List.set (List.set s9.1 (Int.toNat s9.2) v16) (Int.toNat (IntKind.i64.wrap (s9.2 - 1))) v17), (IntKind.i64.wrap (s9.2 - 1)))) ∧ (((bif decide (s9.2 > 0) then decide (v12.fb < v14.fb) else false)) = false → J4 s9.1))) ((s2.1 ++ ([s2.2])), (IntKind.i64.wrap ((((s2.1 ++ ([s2.2])).length : Int)) - 1))))))) ∧ ((decide (s2.2 < ((a0.length : Int)))) = false → J1 s2.1))) (([] : (List Int)), 0))
def KE (a0 : (List Q4)) (r : (List Int)) : Prop := V0 a0 fun x => r = x
theorem WG (a0 : (List Q4)) (r : (List Int)) (h : KE a0 r) : Qq Try.prog 7 [.c (.l 38 (List.map e_api_Record a0))] [.c (.own 1 (List.map (eI .i64) r))] [] := by
  refine Qp tb Try.func7 Z (by kernel_rfl) Z Z (Nat.le_of_ble_eq_true Z) Z ?_;intro E;unfold KE V0 at h;refine Zx (fun Q hQ => ?_);refine tk fun L hL => Qr Z Z <| rt (hL _ ?_);refine tk fun L hL => Qr Z Z <| rt (hL _ ?_);refine Zo (fun (p1 : (List Int)) => (⟨[(3, .c (.sl (3, 1000) 0 (List.map (eI .i64) p1).length))], [((3, 1000), some (.row 1 (List.map (eI .i64) p1) true))]⟩ : St)) h (fun p1 h => ?_) (fun J1 L1 hL1 h => ?_)
  · refine tk fun L hL => mv Z <| Qr Z Z <| rt (hL _ ?_);obtain rfl := h;exact Qe (hQ _ _ (fq2 Z Z Z Z))
  · refine tk fun L hL => Qr Z Z <| rt (hL _ ?_);refine Ql ?_;refine ZK (fun (s2 : (List Int) × Int) => (⟨[(0, .c (.p (.l 38 (List.map e_api_Record a0)))), (3, .c (.sl (3, 1000) 0 (List.map (eI .i64) s2.1).length)), (4, .c (.p (.v (.int .i64 s2.2))))], [((3, 1000), some (.row 1 (List.map (eI .i64) s2.1) true))]⟩ : St)) h ((QG.blk (3, 1050) 1 Z Z Z).trans ((QG.slot 3 Z (.nilo (b := (3, 1050)) Z)).trans (QG.nm [0, 3, 4] [((3, 1050), (3, 1000))] Z (by kernel_rfl)))) (fun X2 L2 hL2 s2 h => ?_);refine sk fun L3 hL3 => tk fun L hL => mv Z <| mv Z <| u0 (Qi Z Z Z Z) <| u0 (Q5 (c := decide (s2.2 < ((a0.length : Int)))) Z Z Z Z Z) <| rt (hL _ ?_);refine QY Z h (fun h => ?_) fun h => ?_
    · refine Qg (hL3 _ ?_);refine Zo (fun (p4 : (List Int)) => (⟨[(0, .c (.p (.l 38 (List.map e_api_Record a0)))), (3, .c (.sl (3, 1000) 0 (List.map (eI .i64) p4).length)), (4, .c (.p (.v (.int .i64 s2.2))))], [((3, 1000), some (.row 1 (List.map (eI .i64) p4) true))]⟩ : St)) h (fun p4 h => ?_) (fun J4 L4 hL4 h => ?_)
      · refine tl fun L hL => mv Z <| u0 (QO Z Z Z Z Z) <| Qr Z Z ?_;refine rt (hL _ (hL2 _ _ h (QG.nm [0, 3, 4] [((3, 1000), (3, 1000))] Z (by kernel_rfl))))
      · refine Ql <| sk fun L5 hL5 => tk fun L hL => mv Z <| mv Z ?_;obtain ⟨v6, hv6, h⟩ := h;refine u0 (Qk hv6 Z Z Z Z Z Z Z Z) <| u0 (QK Z Z Z Z Z Z Z Z) <| u0 (Qn Z Z Z Z Z) <| u0 (Q5 (c := (v6.fb == (-1))) Z Z Z Z Z) <| mv Z <| Q3 Z Z Q6 (fun hg => Q7 Z Z) <| Q3 Z Z Q6 (fun hg => Q7 Z Z) ?_;obtain ⟨v7, hv7, h⟩ := h;refine Q3 Z Z Q6 (fun hg => Qk (hv7 hg) (Q8 hg) (Q8 hg) Z Z Z Z Z Z) <| Q3 Z Z Q6 (fun hg => QK (Q8 hg) Z Z Z Z Z Z Z) <| Q3 Z Z Q6 (fun hg => QK (Q8 hg) Z Z Z Z Z Z Z) <| Q3 Z Z Q6 (fun hg => Qn (Q8 hg) Z Z Z Z) <| Q3 Z Z Q6 (fun hg => Q5 (c := (v7.fh.fa0 == 14)) (Q8 hg) Z Z Z Z) <| u0 (Qb (v := .bool true) (w := .bool ((v7.fh.fa0 == 14))) Z Z Q6 Z Qf Z Z Z) <| rt (hL _ ?_);refine QY Z h (fun h => ?_) fun h => ?_
        · refine QM (hL4 _ _ h (QG.nm [0, 3, 4] [((3, 1000), (3, 1000))] Z (by kernel_rfl)))
        · refine Qg (hL5 _ ?_);refine QF (st' := ⟨[(0, .c (.p (.l 38 (List.map e_api_Record a0)))), (3, .c (.sl (3, 1000) 0 (List.map (eI .i64) s2.1).length)), (4, .c (.p (.v (.int .i64 s2.2))))], [((3, 1000), some (.row 1 (List.map (eI .i64) s2.1) true))]⟩) (QG.nm [0, 3, 4] [((3, 1000), (3, 1000))] Z Z) ?_;refine tk fun L hL => mv Z <| mv Z <| ul (QE (rows := List.map (eI .i64) [s2.2]) Z Z Z Z Z Z Z Z Z Z Z Z Z) ?_;obtain ⟨hm8, h⟩ := h;refine ul (YE (f := (eI .i64)) (L := s2.1) (L' := [s2.2]) hm8 Z Z Z Z Z Z Z Z Z Z Z (Wi AZ Z Z Z Z Z Z)) <| Qr Z Z <| rt (hL _ ?_);refine tk fun L hL => mv Z <| u0 (VP Z Z Z Z Z Z) <| u0 (KG Z Z Z Z Z) <| Qr Z Z <| rt (hL _ ?_);refine Ql ?_;refine ZK (fun (s9 : (List Int) × Int) => (⟨[(0, .c (.p (.l 38 (List.map e_api_Record a0)))), (3, .c (.sl (3, 1000) 0 (List.map (eI .i64) s9.1).length)), (4, .c (.p (.v (.int .i64 s2.2)))), (5, .c (.p (.v (.int .i64 s9.2))))], [((3, 1000), some (.row 1 (List.map (eI .i64) s9.1) true))]⟩ : St)) h (QG.nm [0, 3, 4, 5] [((30, 0), (3, 1000))] Z (by kernel_rfl)) (fun X9 L9 hL9 s9 h => ?_);refine sk fun L10 hL10 => dk mixed (fun L hL => ?_);refine mv Z <| u0 (Q5 (c := decide (s9.2 > 0)) Z Z Z Z Z) <| mv Z <| Q3 Z Z Q9 (fun hg => Q7 Z Z) <| Q3 Z Z Q9 (fun hg => Q7 Z Z) <| Q3 Z Z Q9 (fun hg => Q7 Z Z) ?_
          obtain ⟨v11, hv11, h⟩ := h;refine Q3 Z Z Q9 (fun hg => Zf (hv11 hg) (Q8 hg) Z Z (Q8 hg) Z Z Z Z Z Z) <| Q3 Z Z Q9 (fun hg => Zg (Q8 hg) Z (gm (hv11 hg).2) Z Z Z Z) ?_;obtain ⟨v12, hv12, h⟩ := h;refine Q3 Z Z Q9 (fun hg => Qk (hv12 hg) (Q8 hg) (Q8 hg) Z Z Z Z Z Z) <| Q3 Z Z Q9 (fun hg => QK (Q8 hg) Z Z Z Z Z Z Z) <| Q3 Z Z Q9 (fun hg => Qn (Q8 hg) Z Z Z Z) <| Q3 Z Z Q9 (fun hg => Q7 Z Z) <| Q3 Z Z Q9 (fun hg => Q7 Z Z) <| Q3 Z Z Q9 (fun hg => Q7 Z Z) <| Q3 Z Z Q9 (fun hg => KG (Q8 hg) Z Z Z Z) ?_;obtain ⟨v13, hv13, h⟩ := h;refine Q3 Z Z Q9 (fun hg => Zf (hv13 hg) (Q8 hg) Z Z (Q8 hg) Z Z Z Z Z Z) <| Q3 Z Z Q9 (fun hg => Zg (Q8 hg) Z (gm (hv13 hg).2) Z Z Z Z) ?_;obtain ⟨v14, hv14, h⟩ := h;refine Q3 Z Z Q9 (fun hg => Qk (hv14 hg) (Q8 hg) (Q8 hg) Z Z Z Z Z Z) <| Q3 Z Z Q9 (fun hg => QK (Q8 hg) Z Z Z Z Z Z Z) <| Q3 Z Z Q9 (fun hg => Qn (Q8 hg) Z Z Z Z) <| Q3 Z Z Q9 (fun hg => Q5 (c := decide (v12.fb < v14.fb)) (Q8 hg) (Q8 hg) Z Z Z) <| u0 (Qa (v := .bool (decide (v12.fb < v14.fb))) (w := .bool false) Z Z Q9 Z Qf Z Z Z) <| rd (hL _ ?_)
          refine QY Z h (fun h => ?_) fun h => ?_
          · refine Qg (hL10 _ ?_);refine QF (st' := ⟨[(0, .c (.p (.l 38 (List.map e_api_Record a0)))), (3, .c (.sl (3, 1000) 0 (List.map (eI .i64) s9.1).length)), (4, .c (.p (.v (.int .i64 s2.2)))), (5, .c (.p (.v (.int .i64 s9.2))))], [((3, 1000), some (.row 1 (List.map (eI .i64) s9.1) true))]⟩) (QG.nm [0, 3, 4, 5] [((3, 1000), (3, 1000))] Z Z) ?_;refine sk fun L15 hL15 => Ql <| dl mixed (fun L hL => ?_);refine mv Z <| mv Z <| mv Z <| mv Z <| u0 (KG Z Z Z Z Z) <| mv Z <| mv Z <| u0 (KG Z Z Z Z Z) ?_;obtain ⟨v16, hv16, h⟩ := h;refine u0 (Zf hv16 Z Z Z Z Z Z Z Z Z Z) <| u0 (Zg Z Z (gm hv16.2) Z Z Z Z) <| mv Z <| mv Z ?_;obtain ⟨v17, hv17, h⟩ := h;refine u0 (Zf hv17 Z Z Z Z Z Z Z Z Z Z) <| u0 (Zg Z Z (gm hv17.2) Z Z Z Z) ?_;obtain ⟨v18, hv18, h⟩ := h;refine u0 (Zf hv18 Z Z Z Z Z Z Z Z Z Z) <| un (KV (x1 := v16) hv18.2 Z Z Z Z Z Z Z Z Z Z Z) ?_;obtain ⟨v19, hv19, h⟩ := h;refine u0 (Zf hv19 Z Z (by simp) Z Z Z Z Z Z Z) ?_;refine un (KV (x1 := v17) hv19.2 Z Z Z Z Z Z Z Z Z Z Z) <| rd (hL _ (hL15 _ ?_));refine tl fun L hL => mv Z <| u0 (KG Z Z Z Z Z) <| Qr Z Z ?_;refine rt (hL _ (hL9 _ _ h ((QG.slot 3 Z (.n (n' := (List.map (eI .i64) (List.set (List.set s9.1 (Int.toNat s9.2) v16) (Int.toNat (IntKind.i64.wrap (s9.2 - 1))) v17)).length) (by simp))).trans (QG.nm [0, 3, 4, 5] [((3, 1000), (3, 1000))] Z (by kernel_rfl)))))
          · refine QM (hL4 _ _ h (QG.nm [0, 3, 4] [((3, 1000), (3, 1000))] Z (by kernel_rfl)))
    · refine QM (hL1 _ _ h (QG.nm [3] [((3, 1000), (3, 1000))] Z (by kernel_rfl)))
def JC (a0 : Int) (a1 : Int) (a2 : Int) (Q : Bool → Prop) : Prop :=
 Q (((bif decide (a0 ≥ a1) then decide (a0 ≤ a2) else false)))
def QH (a0 : Int) (a1 : Int) (a2 : Int) (r : Bool) : Prop := JC a0 a1 a2 fun x => r = x
theorem Za (a0 : Int) (a1 : Int) (a2 : Int) (r : Bool) (h : QH a0 a1 a2 r) : Qq Try.prog 33 [.c (.v (.int .i64 a0)), .c (.v (.int .i64 a1)), .c (.v (.int .i64 a2))] [.c (.p (.v (.bool r)))] [] := by
  refine Qp tb Try.func33 Z (by kernel_rfl) Z Z (Nat.le_of_ble_eq_true Z) Z ?_;intro E;unfold QH JC at h;refine Zx (fun Q hQ => ?_);refine tk fun L hL => Qr Z Z <| rt (hL _ ?_);refine tk fun L hL => mv Z <| mv Z <| u0 (Q5 (c := decide (a0 ≥ a1)) Z Z Z Z Z) <| mv Z <| Q3 Z Z Q9 (fun hg => Q7 Z Z) <| Q3 Z Z Q9 (fun hg => Q7 Z Z) <| Q3 Z Z Q9 (fun hg => Q5 (c := decide (a0 ≤ a2)) (Q8 hg) (Q8 hg) Z Z Z) <| u0 (Qa (v := .bool (decide (a0 ≤ a2))) (w := .bool false) Z Z Q9 Z Qf Z Z Z) <| Qr Z Z <| rt (hL _ ?_);obtain rfl := h;exact Qe (hQ _ _ (QX Z Z))
def Xt (a0 : Int) (a1 : (List Int)) (Q : Bool → Prop) : Prop :=
 jn (fun (p1 : Unit) => Q false) (fun (J1 : Unit → Prop) => lp (fun (X2 : Int → Prop) (s2 : Int) => (((decide (s2 < ((a1.length : Int)))) = true → ∃ v5, ix a1 s2 v5 ∧ ((((v5 == a0)) = true → Q true) ∧ (((v5 == a0)) = false → X2 ((IntKind.i64.wrap (s2 + 1)))))) ∧ ((decide (s2 < ((a1.length : Int)))) = false → J1 (())))) 0)
def QV (a0 : Int) (a1 : (List Int)) (r : Bool) : Prop := Xt a0 a1 fun x => r = x
theorem Zm (a0 : Int) (a1 : (List Int)) (r : Bool) (h : QV a0 a1 r) : Qq Try.prog 44 [.c (.v (.int .i64 a0)), .c (.l 1 (List.map (eI .i64) a1))] [.c (.p (.v (.bool r)))] [] := by
  refine Qp tb Try.func44 Z (by kernel_rfl) Z Z (Nat.le_of_ble_eq_true Z) Z ?_;intro E;unfold QV Xt at h;refine Zx (fun Q hQ => ?_);refine tk fun L hL => Qr Z Z <| rt (hL _ ?_);refine Zo (fun (p1 : Unit) => (⟨[], []⟩ : St)) h (fun p1 h => ?_) (fun J1 L1 hL1 h => ?_)
  · refine tk fun L hL => Qr Z Z <| rt (hL _ ?_);obtain rfl := h;exact Qe (hQ _ _ (QX Z Z))
  · refine tk fun L hL => Qr Z Z <| rt (hL _ ?_);refine Ql ?_;refine ZK (fun (s2 : Int) => (⟨[(0, .c (.p (.v (.int .i64 a0)))), (1, .c (.p (.l 1 (List.map (eI .i64) a1)))), (5, .c (.p (.v (.int .i64 s2))))], []⟩ : St)) h (QG.nm [0, 1, 5] [] Z (by kernel_rfl)) (fun X2 L2 hL2 s2 h => ?_);refine sk fun L3 hL3 => tk fun L hL => mv Z <| mv Z <| u0 (Qi Z Z Z Z) <| u0 (Q5 (c := decide (s2 < ((a1.length : Int)))) Z Z Z Z Z) <| rt (hL _ ?_);refine QY Z h (fun h => ?_) fun h => ?_
    · refine Qg (hL3 _ ?_);refine sk fun L4 hL4 => Ql <| tk fun L hL => mv Z <| mv Z ?_;obtain ⟨v5, hv5, h⟩ := h;refine u0 (Qk hv5 Z Z Z Z Z Z Z Z) <| u0 (Qn Z Z Z Z Z) <| mv Z <| u0 (Q5 (c := (v5 == a0)) Z Z Z Z Z) <| rt (hL _ ?_);refine QY Z h (fun h => ?_) fun h => ?_
      · refine tk fun L hL => Qr Z Z <| rt (hL _ ?_);obtain rfl := h;exact Qe (hQ _ _ (QX Z Z))
      · refine Qg (hL4 _ ?_);refine tl fun L hL => mv Z <| u0 (QO Z Z Z Z Z) <| Qr Z Z ?_;refine rt (hL _ (hL2 _ _ h (QG.nm [0, 1, 5] [] Z (by kernel_rfl))))
    · refine QM (hL1 _ _ h (QG.nm [] [] Z (by kernel_rfl)))
def Vr (a0 : Int) (Q : Z7 → Prop) : Prop :=
 ∃ v1, QV a0 ([1, 2, 3, 5, 6, 7, 8, 16]) v1 ∧ ∃ v2, QV a0 ([3, 7, 8]) v2 ∧ ∃ v3, QV a0 ([9]) v3 ∧ ∃ v4, QV a0 ([1]) v4 ∧ ∃ v5, QV a0 ([6]) v5 ∧ ∃ v6, QV a0 ([6, 7, 8]) v6 ∧ ∃ v7, QV a0 ([8]) v7 ∧ ∃ v8, QV a0 ([10, 11, 12, 15]) v8 ∧ ∃ v9, QV a0 ([10, 12, 15]) v9 ∧ ∃ v10, QV a0 ([13, 14]) v10 ∧ ∃ v11, QV a0 ([13]) v11 ∧ ∃ v12, QV a0 ([5, 10]) v12 ∧ ∃ v13, QV a0 ([16]) v13 ∧ Q ((Z7.mk v1 v2 v3 v4 v5 v6 v7 v8 v9 v10 v11 v12 v13))
def J0 (a0 : Int) (r : Z7) : Prop := Vr a0 fun x => r = x
theorem Ul (a0 : Int) (r : Z7) (h : J0 a0 r) : Qq Try.prog 34 [.c (.v (.int .i64 a0))] [.agg [.p (.v (.bool r.fe0)), .p (.v (.bool r.fe1)), .p (.v (.bool r.fe2)), .p (.v (.bool r.fe3)), .p (.v (.bool r.fe4)), .p (.v (.bool r.fe5)), .p (.v (.bool r.fe6)), .p (.v (.bool r.fe7)), .p (.v (.bool r.fe8)), .p (.v (.bool r.fe9)), .p (.v (.bool r.fe10)), .p (.v (.bool r.fe11)), .p (.v (.bool r.fe12))]] [] := by
  refine Qp tb Try.func34 Z (by kernel_rfl) Z Z (Nat.le_of_ble_eq_true Z) Z ?_;intro E;unfold J0 Vr at h;refine Zx (fun Q hQ => ?_);refine tk fun L hL => u1 (Z8 Z Z Z) <| rt (hL _ ?_);refine tk fun L hL => mv Z <| ul (QE (rows := List.map (eI .i64) [1, 2, 3, 5, 6, 7, 8, 16]) Z Z Z Z Z Z Z Z Z Z Z Z Z) ?_;obtain ⟨v1, hv1, h⟩ := h;refine ul (QR (Zm _ _ _ hv1) (Vb (ZL.cons (.p Z) ZL.nil)) Z Z (.cons (.c (.p _)) (.cons (.c (.fr Z (Z6 Z))) .nil)) Z Z Z) <| mv Z <| ul (QE (rows := List.map (eI .i64) [3, 7, 8]) Z Z Z Z Z Z Z Z Z Z Z Z Z) ?_;obtain ⟨v2, hv2, h⟩ := h;refine ul (QR (Zm _ _ _ hv2) (Vb (ZL.cons (.p Z) ZL.nil)) Z Z (.cons (.c (.p _)) (.cons (.c (.fr Z (Z6 Z))) .nil)) Z Z Z) <| mv Z <| ul (QE (rows := List.map (eI .i64) [9]) Z Z Z Z Z Z Z Z Z Z Z Z Z) ?_;obtain ⟨v3, hv3, h⟩ := h;refine ul (QR (Zm _ _ _ hv3) (Vb (ZL.cons (.p Z) ZL.nil)) Z Z (.cons (.c (.p _)) (.cons (.c (.fr Z (Z6 Z))) .nil)) Z Z Z) <| mv Z <| ul (QE (rows := List.map (eI .i64) [1]) Z Z Z Z Z Z Z Z Z Z Z Z Z) ?_;obtain ⟨v4, hv4, h⟩ := h;refine ul (QR (Zm _ _ _ hv4) (Vb (ZL.cons (.p Z) ZL.nil)) Z Z (.cons (.c (.p _)) (.cons (.c (.fr Z (Z6 Z))) .nil)) Z Z Z) <| mv Z <| ul (QE (rows := List.map (eI .i64) [6]) Z Z Z Z Z Z Z Z Z Z Z Z Z) ?_
  obtain ⟨v5, hv5, h⟩ := h;refine ul (QR (Zm _ _ _ hv5) (Vb (ZL.cons (.p Z) ZL.nil)) Z Z (.cons (.c (.p _)) (.cons (.c (.fr Z (Z6 Z))) .nil)) Z Z Z) <| mv Z <| ul (QE (rows := List.map (eI .i64) [6, 7, 8]) Z Z Z Z Z Z Z Z Z Z Z Z Z) ?_;obtain ⟨v6, hv6, h⟩ := h;refine ul (QR (Zm _ _ _ hv6) (Vb (ZL.cons (.p Z) ZL.nil)) Z Z (.cons (.c (.p _)) (.cons (.c (.fr Z (Z6 Z))) .nil)) Z Z Z) <| mv Z <| ul (QE (rows := List.map (eI .i64) [8]) Z Z Z Z Z Z Z Z Z Z Z Z Z) ?_;obtain ⟨v7, hv7, h⟩ := h;refine ul (QR (Zm _ _ _ hv7) (Vb (ZL.cons (.p Z) ZL.nil)) Z Z (.cons (.c (.p _)) (.cons (.c (.fr Z (Z6 Z))) .nil)) Z Z Z) <| mv Z <| ul (QE (rows := List.map (eI .i64) [10, 11, 12, 15]) Z Z Z Z Z Z Z Z Z Z Z Z Z) ?_;obtain ⟨v8, hv8, h⟩ := h;refine ul (QR (Zm _ _ _ hv8) (Vb (ZL.cons (.p Z) ZL.nil)) Z Z (.cons (.c (.p _)) (.cons (.c (.fr Z (Z6 Z))) .nil)) Z Z Z) <| mv Z <| ul (QE (rows := List.map (eI .i64) [10, 12, 15]) Z Z Z Z Z Z Z Z Z Z Z Z Z) ?_;obtain ⟨v9, hv9, h⟩ := h;refine ul (QR (Zm _ _ _ hv9) (Vb (ZL.cons (.p Z) ZL.nil)) Z Z (.cons (.c (.p _)) (.cons (.c (.fr Z (Z6 Z))) .nil)) Z Z Z) <| mv Z <| ul (QE (rows := List.map (eI .i64) [13, 14]) Z Z Z Z Z Z Z Z Z Z Z Z Z) ?_
  obtain ⟨v10, hv10, h⟩ := h;refine ul (QR (Zm _ _ _ hv10) (Vb (ZL.cons (.p Z) ZL.nil)) Z Z (.cons (.c (.p _)) (.cons (.c (.fr Z (Z6 Z))) .nil)) Z Z Z) <| mv Z <| ul (QE (rows := List.map (eI .i64) [13]) Z Z Z Z Z Z Z Z Z Z Z Z Z) ?_;obtain ⟨v11, hv11, h⟩ := h;refine ul (QR (Zm _ _ _ hv11) (Vb (ZL.cons (.p Z) ZL.nil)) Z Z (.cons (.c (.p _)) (.cons (.c (.fr Z (Z6 Z))) .nil)) Z Z Z) <| mv Z <| ul (QE (rows := List.map (eI .i64) [5, 10]) Z Z Z Z Z Z Z Z Z Z Z Z Z) ?_;obtain ⟨v12, hv12, h⟩ := h;refine ul (QR (Zm _ _ _ hv12) (Vb (ZL.cons (.p Z) ZL.nil)) Z Z (.cons (.c (.p _)) (.cons (.c (.fr Z (Z6 Z))) .nil)) Z Z Z) <| mv Z <| ul (QE (rows := List.map (eI .i64) [16]) Z Z Z Z Z Z Z Z Z Z Z Z Z) ?_;obtain ⟨v13, hv13, h⟩ := h;refine ul (QR (Zm _ _ _ hv13) (Vb (ZL.cons (.p Z) ZL.nil)) Z Z (.cons (.c (.p _)) (.cons (.c (.fr Z (Z6 Z))) .nil)) Z Z Z) ?_;refine u0 (Wh (cs := [.p (.v (.bool v1)), .p (.v (.bool v2)), .p (.v (.bool v3)), .p (.v (.bool v4)), .p (.v (.bool v5)), .p (.v (.bool v6)), .p (.v (.bool v7)), .p (.v (.bool v8)), .p (.v (.bool v9)), .p (.v (.bool v10)), .p (.v (.bool v11)), .p (.v (.bool v12)), .p (.v (.bool v13))]) Z Z Z Z Z (by kernel_rfl) Z) ?_
  refine un (Zr Z Z Z Z Z Z Z Z Z) <| rt (hL _ ?_);refine QF (st' := ⟨[(2, .c (.ptr (2, 0) 0 0))], [((2, 0), some (.box ([.p (.v (.bool v1)), .p (.v (.bool v2)), .p (.v (.bool v3)), .p (.v (.bool v4)), .p (.v (.bool v5)), .p (.v (.bool v6)), .p (.v (.bool v7)), .p (.v (.bool v8)), .p (.v (.bool v9)), .p (.v (.bool v10)), .p (.v (.bool v11)), .p (.v (.bool v12)), .p (.v (.bool v13))])))]⟩) (QG.nm [2] [((2, 0), (2, 0))] Z Z) ?_;obtain rfl := h;exact Qe (hQ _ _ ⟨.inr Z, _, _, _, (.cons (.cella Z Z Z Z Z) .nil), (.cons (.agg (BD (BD (BD (BD (BD (BD (BD (BD (BD (BD (BD (BD (BD .nil)))))))))))))) .nil), Z, Z⟩)
def JD (a0 : Int) (a1 : Int) (a2 : Int) (Q : Bool → Prop) : Prop :=
 Q (((bif decide (a0 ≥ a1) then decide (a0 ≤ a2) else false)))
def ZF (a0 : Int) (a1 : Int) (a2 : Int) (r : Bool) : Prop := JD a0 a1 a2 fun x => r = x
theorem JE (a0 : Int) (a1 : Int) (a2 : Int) (r : Bool) (h : ZF a0 a1 a2 r) : Qq Try.prog 45 [.c (.v (.int .u8 a0)), .c (.v (.int .u8 a1)), .c (.v (.int .u8 a2))] [.c (.p (.v (.bool r)))] [] := by
  refine Qp tb Try.func45 Z (by kernel_rfl) Z Z (Nat.le_of_ble_eq_true Z) Z ?_;intro E;unfold ZF JD at h;refine Zx (fun Q hQ => ?_);refine tk fun L hL => Qr Z Z <| rt (hL _ ?_);refine tk fun L hL => mv Z <| mv Z <| u0 (Q5 (c := decide (a0 ≥ a1)) Z Z Z Z Z) <| mv Z <| Q3 Z Z Q9 (fun hg => Q7 Z Z) <| Q3 Z Z Q9 (fun hg => Q7 Z Z) <| Q3 Z Z Q9 (fun hg => Q5 (c := decide (a0 ≤ a2)) (Q8 hg) (Q8 hg) Z Z Z) <| u0 (Qa (v := .bool (decide (a0 ≤ a2))) (w := .bool false) Z Z Q9 Z Qf Z Z Z) <| Qr Z Z <| rt (hL _ ?_);obtain rfl := h;exact Qe (hQ _ _ (QX Z Z))
def V1 (a0 : ByteArray) (Q : Bool → Prop) : Prop :=
 ∃ (v2 : Int), ((!((bif decide (((a0.size : Int)) < 1) then true else decide (((a0.size : Int)) > 16)))) = true → bx a0 0 v2) ∧ ∃ (v3 : Bool), ((!((bif decide (((a0.size : Int)) < 1) then true else decide (((a0.size : Int)) > 16)))) = true → ZF v2 97 122 v3) ∧ ((((bif (bif decide (((a0.size : Int)) < 1) then true else decide (((a0.size : Int)) > 16)) then true else !(v3))) = true → Q false) ∧ (((bif (bif decide (((a0.size : Int)) < 1) then true else decide (((a0.size : Int)) > 16)) then true else !(v3))) = false → jn (fun (p4 : Unit) => Q true) (fun (J4 : Unit → Prop) => lp (fun (X5 : Int → Prop) (s5 : Int) => (((decide (s5 < ((a0.size : Int)))) = true → ∃ v8, bx a0 s5 v8 ∧ ∃ v9, ZF v8 97 122 v9 ∧ ∃ (v10 : Int), ((!(v9)) = true → bx a0 s5 v10) ∧ ∃ (v11 : Bool), ((!(v9)) = true → ZF v10 48 57 v11) ∧ ∃ (v12 : Int), (((bif !(v9) then !(v11) else false)) = true → bx a0 s5 v12) ∧ ∃ (v13 : Int), (((bif (bif !(v9) then !(v11) else false) then (v12 != 45) else false)) = true → bx a0 s5 v13) ∧ ((((bif (bif (bif !(v9) then !(v11) else false) then (v12 != 45) else false) then (v13 != 46) else false)) = true → Q false) ∧ (((bif (bif (bif !(v9) then !(v11) else false) then (v12 != 45) else false) then (v13 != 46) else false)) = false → X5 ((IntKind.i64.wrap (s5 + 1)))))) ∧ ((decide (s5 < ((a0.size : Int)))) = false → J4 (())))) 0)))
def ZQ (a0 : ByteArray) (r : Bool) : Prop := V1 a0 fun x => r = x
theorem V2 (a0 : ByteArray) (r : Bool) (h : ZQ a0 r) : Qq Try.prog 35 [.c (.v (.string a0))] [.c (.p (.v (.bool r)))] [] := by
  refine Qp tb Try.func35 Z (by kernel_rfl) Z Z (Nat.le_of_ble_eq_true Z) Z ?_;intro E;unfold ZQ V1 at h;refine Zx (fun Q hQ => ?_);refine tk fun L hL => Qr Z Z <| rt (hL _ ?_);refine sk fun L1 hL1 => tk fun L hL => mv Z <| u0 (QI Z Z Z Z) <| u0 (Q5 (c := decide (((a0.size : Int)) < 1)) Z Z Z Z Z) <| mv Z <| Q3 Z Z Q6 (fun hg => Q7 Z Z) <| Q3 Z Z Q6 (fun hg => QI (Q8 hg) Z Z Z) <| Q3 Z Z Q6 (fun hg => Q5 (c := decide (((a0.size : Int)) > 16)) (Q8 hg) Z Z Z Z) <| u0 (Qb (v := .bool true) (w := .bool (decide (((a0.size : Int)) > 16))) Z Z Q6 Z Qf Z Z Z) <| mv Z <| Q3 Z Z Q6 (fun hg => Q7 Z Z) ?_;obtain ⟨v2, hv2, h⟩ := h;refine Q3 Z Z Q6 (fun hg => ZD (hv2 hg) (Q8 hg) Z Z Z Z Z) ?_;obtain ⟨v3, hv3, h⟩ := h;refine Q3 Z Z Q6 (fun hg => Qd (JE _ _ _ _ (hv3 hg)) Z Z (.cons (QS hg (.c (.p _))) (.cons (.c (.p _)) (.cons (.c (.p _)) .nil))) Z Z Z) <| Q3 Z Z Q6 (fun hg => Qt (Q8 hg) Z Z) <| u0 (Qb (v := .bool true) (w := .bool (!(v3))) Z Z Q6 Z Qf Z Z Z) <| rt (hL _ ?_);refine QY Z h (fun h => ?_) fun h => ?_
  · refine tk fun L hL => Qr Z Z <| rt (hL _ ?_);obtain rfl := h;exact Qe (hQ _ _ (QX Z Z))
  · refine Qg (hL1 _ ?_);refine QF (st' := ⟨[(0, .c (.p (.v (.string a0))))], []⟩) (QG.nm [0] [] Z Z) ?_;refine Zo (fun (p4 : Unit) => (⟨[], []⟩ : St)) h (fun p4 h => ?_) (fun J4 L4 hL4 h => ?_)
    · refine tk fun L hL => Qr Z Z <| rt (hL _ ?_);obtain rfl := h;exact Qe (hQ _ _ (QX Z Z))
    · refine tk fun L hL => Qr Z Z <| rt (hL _ ?_);refine Ql ?_;refine ZK (fun (s5 : Int) => (⟨[(0, .c (.p (.v (.string a0)))), (3, .c (.p (.v (.int .i64 s5))))], []⟩ : St)) h (QG.nm [0, 3] [] Z (by kernel_rfl)) (fun X5 L5 hL5 s5 h => ?_);refine sk fun L6 hL6 => tk fun L hL => mv Z <| mv Z <| u0 (QI Z Z Z Z) <| u0 (Q5 (c := decide (s5 < ((a0.size : Int)))) Z Z Z Z Z) <| rt (hL _ ?_);refine QY Z h (fun h => ?_) fun h => ?_
      · refine Qg (hL6 _ ?_);refine sk fun L7 hL7 => Ql <| tk fun L hL => mv Z <| mv Z ?_;obtain ⟨v8, hv8, h⟩ := h;refine u0 (ZD hv8 Z Z Z Z Z Z) ?_;obtain ⟨v9, hv9, h⟩ := h;refine u0 (Qd (JE _ _ _ _ hv9) Z Z (.cons (.c (.p _)) (.cons (.c (.p _)) (.cons (.c (.p _)) .nil))) Z Z Z) <| u0 (Qt Z Z Z) <| mv Z <| Q3 Z Z Q9 (fun hg => Q7 Z Z) <| Q3 Z Z Q9 (fun hg => Q7 Z Z) ?_;obtain ⟨v10, hv10, h⟩ := h;refine Q3 Z Z Q9 (fun hg => ZD (hv10 hg) (Q8 hg) (Q8 hg) Z Z Z Z) ?_;obtain ⟨v11, hv11, h⟩ := h;refine Q3 Z Z Q9 (fun hg => Qd (JE _ _ _ _ (hv11 hg)) Z Z (.cons (QS hg (.c (.p _))) (.cons (.c (.p _)) (.cons (.c (.p _)) .nil))) Z Z Z) <| Q3 Z Z Q9 (fun hg => Qt (Q8 hg) Z Z) <| u0 (Qa (v := .bool (!(v11))) (w := .bool false) Z Z Q9 Z Qf Z Z Z) <| mv Z <| Q3 Z Z Q9 (fun hg => Q7 Z Z) <| Q3 Z Z Q9 (fun hg => Q7 Z Z) ?_;obtain ⟨v12, hv12, h⟩ := h;refine Q3 Z Z Q9 (fun hg => ZD (hv12 hg) (Q8 hg) (Q8 hg) Z Z Z Z) <| Q3 Z Z Q9 (fun hg => Q5 (c := (v12 != 45)) (Q8 hg) Z Z Z Z) <| u0 (Qa (v := .bool ((v12 != 45))) (w := .bool false) Z Z Q9 Z Qf Z Z Z) <| mv Z <| Q3 Z Z Q9 (fun hg => Q7 Z Z) <| Q3 Z Z Q9 (fun hg => Q7 Z Z) ?_
        obtain ⟨v13, hv13, h⟩ := h;refine Q3 Z Z Q9 (fun hg => ZD (hv13 hg) (Q8 hg) (Q8 hg) Z Z Z Z) <| Q3 Z Z Q9 (fun hg => Q5 (c := (v13 != 46)) (Q8 hg) Z Z Z Z) <| u0 (Qa (v := .bool ((v13 != 46))) (w := .bool false) Z Z Q9 Z Qf Z Z Z) <| rt (hL _ ?_);refine QY Z h (fun h => ?_) fun h => ?_
        · refine tk fun L hL => Qr Z Z <| rt (hL _ ?_);obtain rfl := h;exact Qe (hQ _ _ (QX Z Z))
        · refine Qg (hL7 _ ?_);refine QF (st' := ⟨[(0, .c (.p (.v (.string a0)))), (3, .c (.p (.v (.int .i64 s5))))], []⟩) (QG.nm [0, 3] [] Z Z) ?_;refine tl fun L hL => mv Z <| u0 (QO Z Z Z Z Z) <| Qr Z Z ?_;refine rt (hL _ (hL5 _ _ h (QG.nm [0, 3] [] Z (by kernel_rfl))))
      · refine QM (hL4 _ _ h (QG.nm [] [] Z (by kernel_rfl)))
def Vs (a0 : ByteArray) (Q : Bool → Prop) : Prop :=
 Q (((bif decide (((a0.size : Int)) ≥ 1) then decide (((a0.size : Int)) ≤ 32) else false)))
def Kt (a0 : ByteArray) (r : Bool) : Prop := Vs a0 fun x => r = x
theorem XW (a0 : ByteArray) (r : Bool) (h : Kt a0 r) : Qq Try.prog 48 [.c (.v (.string a0))] [.c (.p (.v (.bool r)))] [] := by
  refine Qp tb Try.func48 Z (by kernel_rfl) Z Z (Nat.le_of_ble_eq_true Z) Z ?_;intro E;unfold Kt Vs at h;refine Zx (fun Q hQ => ?_);refine tk fun L hL => Qr Z Z <| rt (hL _ ?_);refine tk fun L hL => mv Z <| u0 (QI Z Z Z Z) <| u0 (Q5 (c := decide (((a0.size : Int)) ≥ 1)) Z Z Z Z Z) <| mv Z <| Q3 Z Z Q9 (fun hg => Q7 Z Z) <| Q3 Z Z Q9 (fun hg => QI (Q8 hg) Z Z Z) <| Q3 Z Z Q9 (fun hg => Q5 (c := decide (((a0.size : Int)) ≤ 32)) (Q8 hg) Z Z Z Z) <| u0 (Qa (v := .bool (decide (((a0.size : Int)) ≤ 32))) (w := .bool false) Z Z Q9 Z Qf Z Z Z) <| Qr Z Z <| rt (hL _ ?_);obtain rfl := h;exact Qe (hQ _ _ (QX Z Z))
def Kx (a0 : Qv) (Q : Int → Prop) : Prop :=
 ∃ v2, Kt a0.fu v2 ∧ (((!(v2)) = true → Q 7) ∧ ((!(v2)) = false → ((((bif decide (a0.fa1 < 1) then true else decide (a0.fa1 > 4294967295))) = true → Q 5) ∧ (((bif decide (a0.fa1 < 1) then true else decide (a0.fa1 > 4294967295))) = false → Q 0))))
def Zd (a0 : Qv) (r : Int) : Prop := Kx a0 fun x => r = x
theorem X7 (a0 : Qv) (r : Int) (h : Zd a0 r) : Qq Try.prog 46 [.agg (KI a0)] [.c (.p (.v (.int .i64 r)))] [] := by
  refine Qp tb Try.func46 Z (by kernel_rfl) Z Z (Nat.le_of_ble_eq_true Z) Z ?_;intro E;unfold Zd Kx at h;refine Zx (fun Q hQ => ?_);refine tk fun L hL => u1 (QL Z Z) <| Qr Z Z <| rt (hL _ ?_);refine sk fun L1 hL1 => tk fun L hL => u0 (Q2 Z Z Z Z Z Z Z Z Z) <| u0 (Q1 Z Z Z Z Z Z) ?_;obtain ⟨v2, hv2, h⟩ := h;refine u0 (Qd (XW _ _ hv2) Z Z (.cons (.c (.p _)) .nil) Z Z Z) <| u0 (Qt Z Z Z) <| rt (hL _ ?_);refine QY Z h (fun h => ?_) fun h => ?_
  · refine tk fun L hL => Qr Z Z <| rt (hL _ ?_);obtain rfl := h;exact Qe (hQ _ _ (QX Z Z))
  · refine Qg (hL1 _ ?_);refine sk fun L3 hL3 => tk fun L hL => u0 (Q2 Z Z Z Z Z Z Z Z Z) <| u0 (Q1 Z Z Z Z Z Z) <| u0 (Q5 (c := decide (a0.fa1 < 1)) Z Z Z Z Z) <| mv Z <| Q3 Z Z Q6 (fun hg => Q2 Z Z Z Z Z Z Z Z Z) <| Q3 Z Z Q6 (fun hg => Q1 (Q8 hg) Z Z Z Z Z) <| Q3 Z Z Q6 (fun hg => Q5 (c := decide (a0.fa1 > 4294967295)) (Q8 hg) Z Z Z Z) <| u0 (Qb (v := .bool true) (w := .bool (decide (a0.fa1 > 4294967295))) Z Z Q6 Z Qf Z Z Z) <| rt (hL _ ?_);refine QY Z h (fun h => ?_) fun h => ?_
    · refine tk fun L hL => Qr Z Z <| rt (hL _ ?_);obtain rfl := h;exact Qe (hQ _ _ (QX Z Z))
    · refine Qg (hL3 _ ?_);refine QF (st' := ⟨[], []⟩) (QG.nm [] [] Z Z) ?_;refine tk fun L hL => Qr Z Z <| rt (hL _ ?_);obtain rfl := h;exact Qe (hQ _ _ (QX Z Z))
def V3 (a0 : Qu) (a1 : Bool) (a2 : Bool) (Q : Int → Prop) : Prop :=
 jn (fun (p1 : Unit) => jn (fun (p9 : Unit) => Q 0) (fun (J9 : Unit → Prop) => ((a2 = true → ∃ v11, QH ((a0.fp.length : Int)) 1 64 v11 ∧ (((!(v11)) = true → Q 5) ∧ ((!(v11)) = false → lp (fun (X12 : Int → Prop) (s12 : Int) => (((decide (s12 < ((a0.fp.length : Int)))) = true → ∃ v15, ix a0.fp s12 v15 ∧ ∃ v16, Zd v15 v16 ∧ ((((v16 != 0)) = true → Q v16) ∧ (((v16 != 0)) = false → X12 ((IntKind.i64.wrap (s12 + 1)))))) ∧ ((decide (s12 < ((a0.fp.length : Int)))) = false → J9 (())))) 0))) ∧ (a2 = false → J9 (()))))) (fun (J1 : Unit → Prop) => ((a1 = true → ∃ v3, QH ((a0.fj.length : Int)) 1 16 v3 ∧ (((!(v3)) = true → Q 5) ∧ ((!(v3)) = false → lp (fun (X4 : Int → Prop) (s4 : Int) => (((decide (s4 < ((a0.fj.length : Int)))) = true → ∃ v7, ix a0.fj s4 v7 ∧ ∃ v8, ZQ v7 v8 ∧ (((!(v8)) = true → Q 6) ∧ ((!(v8)) = false → X4 ((IntKind.i64.wrap (s4 + 1)))))) ∧ ((decide (s4 < ((a0.fj.length : Int)))) = false → J1 (())))) 0))) ∧ (a1 = false → J1 (()))))
def Zw (a0 : Qu) (a1 : Bool) (a2 : Bool) (r : Int) : Prop := V3 a0 a1 a2 fun x => r = x
theorem Xj (a0 : Qu) (a1 : Bool) (a2 : Bool) (r : Int) (h : Zw a0 a1 a2 r) : Qq Try.prog 36 [.agg (Zp a0), .c (.v (.bool a1)), .c (.v (.bool a2))] [.c (.p (.v (.int .i64 r)))] [] := by
  refine Qp tb Try.func36 Z (by kernel_rfl) Z Z (Nat.le_of_ble_eq_true Z) Z ?_;intro E;unfold Zw V3 at h;refine Zx (fun Q hQ => ?_);refine tk fun L hL => u1 (QL Z Z) <| Qr Z Z <| rt (hL _ ?_);refine Zo (fun (p1 : Unit) => (⟨[(2, .c (.p (.v (.bool a2)))), (3, .c (.ptr (3, 0) 0 0))], [((3, 0), some (.box (List.map CV.p (Zp a0))))]⟩ : St)) h (fun p1 h => ?_) (fun J1 L1 hL1 h => ?_)
  · refine Zo (fun (p9 : Unit) => (⟨[], []⟩ : St)) h (fun p9 h => ?_) (fun J9 L9 hL9 h => ?_)
    · refine tk fun L hL => Qr Z Z <| rt (hL _ ?_);obtain rfl := h;exact Qe (hQ _ _ (QX Z Z))
    · refine tk fun L hL => mv Z <| rt (hL _ ?_);refine QY Z h (fun h => ?_) fun h => ?_
      · refine sk fun L10 hL10 => tk fun L hL => u0 (Q2 Z Z Z Z Z Z Z Z Z) <| u0 (Q1 Z Z Z Z Z Z) <| u0 (Qi Z Z Z Z) ?_;obtain ⟨v11, hv11, h⟩ := h;refine u0 (Qd (Za _ _ _ _ hv11) Z Z (.cons (.c (.p _)) (.cons (.c (.p _)) (.cons (.c (.p _)) .nil))) Z Z Z) <| u0 (Qt Z Z Z) <| rt (hL _ ?_);refine QY Z h (fun h => ?_) fun h => ?_
        · refine tk fun L hL => Qr Z Z <| rt (hL _ ?_);obtain rfl := h;exact Qe (hQ _ _ (QX Z Z))
        · refine Qg (hL10 _ ?_);refine tk fun L hL => Qr Z Z <| rt (hL _ ?_);refine Ql ?_;refine ZK (fun (s12 : Int) => (⟨[(3, .c (.ptr (3, 0) 0 0)), (8, .c (.p (.v (.int .i64 s12))))], [((3, 0), some (.box (List.map CV.p (Zp a0))))]⟩ : St)) h (QG.nm [3, 8] [((3, 0), (3, 0))] Z (by kernel_rfl)) (fun X12 L12 hL12 s12 h => ?_);refine sk fun L13 hL13 => tk fun L hL => mv Z <| u0 (Q2 Z Z Z Z Z Z Z Z Z) <| u0 (Q1 Z Z Z Z Z Z) <| u0 (Qi Z Z Z Z) <| u0 (Q5 (c := decide (s12 < ((a0.fp.length : Int)))) Z Z Z Z Z) <| rt (hL _ ?_);refine QY Z h (fun h => ?_) fun h => ?_
          · refine Qg (hL13 _ ?_);refine sk fun L14 hL14 => Ql <| tk fun L hL => u0 (Q2 Z Z Z Z Z Z Z Z Z) <| u0 (Q1 Z Z Z Z Z Z) <| mv Z ?_;obtain ⟨v15, hv15, h⟩ := h;refine u0 (Qk hv15 Z Z Z Z Z Z Z Z) <| u0 (Qy Z Z Z Z Z Z Z) ?_;obtain ⟨v16, hv16, h⟩ := h;refine u0 (Qd (X7 _ _ hv16) Z Z (.cons (.agg (.pp (.pp .nil))) .nil) Z Z Z) <| Qr Z Z <| rt (hL _ ?_);refine tk fun L hL => mv Z <| u0 (Q5 (c := (v16 != 0)) Z Z Z Z Z) <| rt (hL _ ?_);refine QY Z h (fun h => ?_) fun h => ?_
            · refine tk fun L hL => mv Z <| Qr Z Z <| rt (hL _ ?_);obtain rfl := h;exact Qe (hQ _ _ (QX Z Z))
            · refine Qg (hL14 _ ?_);refine tl fun L hL => mv Z <| u0 (QO Z Z Z Z Z) <| Qr Z Z ?_;refine rt (hL _ (hL12 _ _ h (QG.nm [3, 8] [((3, 0), (3, 0))] Z (by kernel_rfl))))
          · refine QM (hL9 _ _ h (QG.nm [] [] Z (by kernel_rfl)))
      · refine Qg (hL9 _ _ h (QG.nm [] [] Z (by kernel_rfl)))
  · refine tk fun L hL => mv Z <| rt (hL _ ?_);refine QY Z h (fun h => ?_) fun h => ?_
    · refine sk fun L2 hL2 => tk fun L hL => u0 (Q2 Z Z Z Z Z Z Z Z Z) <| u0 (Q1 Z Z Z Z Z Z) <| u0 (Qi Z Z Z Z) ?_;obtain ⟨v3, hv3, h⟩ := h;refine u0 (Qd (Za _ _ _ _ hv3) Z Z (.cons (.c (.p _)) (.cons (.c (.p _)) (.cons (.c (.p _)) .nil))) Z Z Z) <| u0 (Qt Z Z Z) <| rt (hL _ ?_);refine QY Z h (fun h => ?_) fun h => ?_
      · refine tk fun L hL => Qr Z Z <| rt (hL _ ?_);obtain rfl := h;exact Qe (hQ _ _ (QX Z Z))
      · refine Qg (hL2 _ ?_);refine tk fun L hL => Qr Z Z <| rt (hL _ ?_);refine Ql ?_;refine ZK (fun (s4 : Int) => (⟨[(2, .c (.p (.v (.bool a2)))), (3, .c (.ptr (3, 0) 0 0)), (7, .c (.p (.v (.int .i64 s4))))], [((3, 0), some (.box (List.map CV.p (Zp a0))))]⟩ : St)) h (QG.nm [2, 3, 7] [((3, 0), (3, 0))] Z (by kernel_rfl)) (fun X4 L4 hL4 s4 h => ?_);refine sk fun L5 hL5 => tk fun L hL => mv Z <| u0 (Q2 Z Z Z Z Z Z Z Z Z) <| u0 (Q1 Z Z Z Z Z Z) <| u0 (Qi Z Z Z Z) <| u0 (Q5 (c := decide (s4 < ((a0.fj.length : Int)))) Z Z Z Z Z) <| rt (hL _ ?_);refine QY Z h (fun h => ?_) fun h => ?_
        · refine Qg (hL5 _ ?_);refine sk fun L6 hL6 => Ql <| tk fun L hL => u0 (Q2 Z Z Z Z Z Z Z Z Z) <| u0 (Q1 Z Z Z Z Z Z) <| mv Z ?_;obtain ⟨v7, hv7, h⟩ := h;refine u0 (Qk hv7 Z Z Z Z Z Z Z Z) <| u0 (Qn Z Z Z Z Z) ?_;obtain ⟨v8, hv8, h⟩ := h;refine u0 (Qd (V2 _ _ hv8) Z Z (.cons (.c (.p _)) .nil) Z Z Z) <| u0 (Qt Z Z Z) <| rt (hL _ ?_);refine QY Z h (fun h => ?_) fun h => ?_
          · refine tk fun L hL => Qr Z Z <| rt (hL _ ?_);obtain rfl := h;exact Qe (hQ _ _ (QX Z Z))
          · refine Qg (hL6 _ ?_);refine tl fun L hL => mv Z <| u0 (QO Z Z Z Z Z) <| Qr Z Z ?_;refine rt (hL _ (hL4 _ _ h (QG.nm [2, 3, 7] [((3, 0), (3, 0))] Z (by kernel_rfl))))
        · refine QM (hL1 _ _ h (QG.nm [2, 3] [((3, 0), (3, 0))] Z (by kernel_rfl)))
    · refine Qg (hL1 _ _ h (QG.nm [2, 3] [((3, 0), (3, 0))] Z (by kernel_rfl)))
def JF (a0 : Int) (a1 : Int) (a2 : Int) (Q : Bool → Prop) : Prop :=
 Q (((bif decide (a0 ≥ a1) then decide (a0 ≤ a2) else false)))
def QJ (a0 : Int) (a1 : Int) (a2 : Int) (r : Bool) : Prop := JF a0 a1 a2 fun x => r = x
theorem Zb (a0 : Int) (a1 : Int) (a2 : Int) (r : Bool) (h : QJ a0 a1 a2 r) : Qq Try.prog 47 [.c (.v (.int .i64 a0)), .c (.v (.int .i64 a1)), .c (.v (.int .i64 a2))] [.c (.p (.v (.bool r)))] [] := by
  refine Qp tb Try.func47 Z (by kernel_rfl) Z Z (Nat.le_of_ble_eq_true Z) Z ?_;intro E;unfold QJ JF at h;refine Zx (fun Q hQ => ?_);refine tk fun L hL => Qr Z Z <| rt (hL _ ?_);refine tk fun L hL => mv Z <| mv Z <| u0 (Q5 (c := decide (a0 ≥ a1)) Z Z Z Z Z) <| mv Z <| Q3 Z Z Q9 (fun hg => Q7 Z Z) <| Q3 Z Z Q9 (fun hg => Q7 Z Z) <| Q3 Z Z Q9 (fun hg => Q5 (c := decide (a0 ≤ a2)) (Q8 hg) (Q8 hg) Z Z Z) <| u0 (Qa (v := .bool (decide (a0 ≤ a2))) (w := .bool false) Z Z Q9 Z Qf Z Z Z) <| Qr Z Z <| rt (hL _ ?_);obtain rfl := h;exact Qe (hQ _ _ (QX Z Z))
def K6 (a0 : Qw) (Q : Int → Prop) : Prop :=
 jn (fun (p1 : Bool × Bool × Bool) => (((!(p1.1)) = true → Q 5) ∧ ((!(p1.1)) = false → ((((bif !(p1.2.1) then true else !(p1.2.2))) = true → Q 10) ∧ (((bif !(p1.2.1) then true else !(p1.2.2))) = false → Q 0))))) (fun (J1 : Bool × Bool × Bool → Prop) => ((((a0.fc == 1)) = true → ((((a0.f3 != 0)) = true → Q 10) ∧ (((a0.f3 != 0)) = false → J1 (true, ((a0.fy == 0)), ((a0.fa3 == 0)))))) ∧ (((a0.fc == 1)) = false → ((((a0.fc == 2)) = true → ∃ v2, QJ a0.fy 1 8 v2 ∧ ∃ (v3 : Bool), (v2 = true → QJ a0.f3 1 64 v3) ∧ J1 (((bif v2 then v3 else false)), true, true)) ∧ (((a0.fc == 2)) = false → ((((a0.fc == 3)) = true → ∃ v4, QJ a0.f3 2 8 v4 ∧ J1 (v4, ((a0.fy == 0)), true)) ∧ (((a0.fc == 3)) = false → jn (fun (p5 : Bool) => ((p5 = true → ∃ v6, QJ a0.f3 1 32 v6 ∧ J1 (v6, ((a0.fy == 0)), ((a0.fa3 == 0)))) ∧ (p5 = false → ((((a0.fc == 6)) = true → ∃ v7, QJ a0.f3 2 32 v7 ∧ J1 (((bif v7 then ((a0.f3.tmod 2) == 0) else false)), ((a0.fy == 0)), ((a0.fa3 == 0)))) ∧ (((a0.fc == 6)) = false → Q 8))))) (fun (J5 : Bool → Prop) => ((((a0.fc == 4)) = true → J5 (((a0.fc == 4)))) ∧ (((a0.fc == 4)) = false → J5 (((a0.fc == 5)))))))))))))
def QZ (a0 : Qw) (r : Int) : Prop := K6 a0 fun x => r = x
theorem Vt (a0 : Qw) (r : Int) (h : QZ a0 r) : Qq Try.prog 37 [.agg (KU a0)] [.c (.p (.v (.int .i64 r)))] [] := by
  refine Qp tb Try.func37 Z (by kernel_rfl) Z Z (Nat.le_of_ble_eq_true Z) Z ?_;intro E;unfold QZ K6 at h;refine Zx (fun Q hQ => ?_);refine tk fun L hL => u1 (QL Z Z) <| Qr Z Z <| rt (hL _ ?_);refine dk mixed (fun L hL => ?_);refine u0 (Q2 Z Z Z Z Z Z Z Z Z) <| u0 (Q1 Z Z Z Z Z Z) <| u0 (Q5 (c := (a0.fy == 0)) Z Z Z Z Z) <| u0 (Q2 Z Z Z Z Z Z Z Z Z) <| u0 (Q1 Z Z Z Z Z Z) <| u0 (Q5 (c := (a0.fa3 == 0)) Z Z Z Z Z) <| Qr Z Z <| Qr Z Z <| Qr Z Z <| rd (hL _ ?_);refine Zo (fun (p1 : Bool × Bool × Bool) => (⟨[(3, .c (.p (.v (.bool p1.1)))), (4, .c (.p (.v (.bool p1.2.1)))), (5, .c (.p (.v (.bool p1.2.2))))], []⟩ : St)) h (fun p1 h => ?_) (fun J1 L1 hL1 h => ?_)
  · refine sk fun L8 hL8 => tk fun L hL => mv Z <| u0 (Qt Z Z Z) <| rt (hL _ ?_);refine QY Z h (fun h => ?_) fun h => ?_
    · refine tk fun L hL => Qr Z Z <| rt (hL _ ?_);obtain rfl := h;exact Qe (hQ _ _ (QX Z Z))
    · refine Qg (hL8 _ ?_);refine sk fun L9 hL9 => tk fun L hL => mv Z <| u0 (Qt Z Z Z) <| mv Z <| Q3 Z Z Q6 (fun hg => Q7 Z Z) <| Q3 Z Z Q6 (fun hg => Qt (Q8 hg) Z Z) <| u0 (Qb (v := .bool true) (w := .bool (!(p1.2.2))) Z Z Q6 Z Qf Z Z Z) <| rt (hL _ ?_);refine QY Z h (fun h => ?_) fun h => ?_
      · refine tk fun L hL => Qr Z Z <| rt (hL _ ?_);obtain rfl := h;exact Qe (hQ _ _ (QX Z Z))
      · refine Qg (hL9 _ ?_);refine QF (st' := ⟨[], []⟩) (QG.nm [] [] Z Z) ?_;refine tk fun L hL => Qr Z Z <| rt (hL _ ?_);obtain rfl := h;exact Qe (hQ _ _ (QX Z Z))
  · refine tk fun L hL => u0 (Q2 Z Z Z Z Z Z Z Z Z) <| u0 (Q1 Z Z Z Z Z Z) <| rt (hL _ ?_);refine Ql <| tk fun L hL => u0 (Q5 (c := (a0.fc == 1)) Z Z Z Z Z) <| Qr Z Z <| rt (hL _ ?_);refine QY Z h (fun h => ?_) fun h => ?_
    · refine tk fun L hL => u0 (Q2 Z Z Z Z Z Z Z Z Z) <| u0 (Q1 Z Z Z Z Z Z) <| u0 (Q5 (c := (a0.f3 != 0)) Z Z Z Z Z) <| rt (hL _ ?_);refine QY Z h (fun h => ?_) fun h => ?_
      · refine tk fun L hL => Qr Z Z <| rt (hL _ ?_);obtain rfl := h;exact Qe (hQ _ _ (QX Z Z))
      · refine Qg (hL1 _ _ h (QG.nm [3, 4, 5] [] Z (by kernel_rfl)))
    · refine tk fun L hL => u0 (Q5 (c := (a0.fc == 2)) Z Z Z Z Z) <| Qr Z Z <| rt (hL _ ?_);refine QY Z h (fun h => ?_) fun h => ?_
      · refine tl fun L hL => u0 (Q2 Z Z Z Z Z Z Z Z Z) <| u0 (Q1 Z Z Z Z Z Z) ?_;obtain ⟨v2, hv2, h⟩ := h;refine u0 (Qd (Zb _ _ _ _ hv2) Z Z (.cons (.c (.p _)) (.cons (.c (.p _)) (.cons (.c (.p _)) .nil))) Z Z Z) <| mv Z <| Q3 Z Z Q9 (fun hg => Q2 Z Z Z Z Z Z Z Z Z) <| Q3 Z Z Q9 (fun hg => Q1 (Q8 hg) Z Z Z Z Z) ?_;obtain ⟨v3, hv3, h⟩ := h;refine Q3 Z Z Q9 (fun hg => Qd (Zb _ _ _ _ (hv3 hg)) Z Z (.cons (QS hg (.c (.p _))) (.cons (.c (.p _)) (.cons (.c (.p _)) .nil))) Z Z Z) <| u0 (Qa (v := .bool v3) (w := .bool false) Z Z Q9 Z Qf Z Z Z) <| Qr Z Z <| Qr Z Z <| Qr Z Z ?_;refine rt (hL _ (hL1 _ _ h (QG.nm [3, 4, 5] [] Z (by kernel_rfl))))
      · refine tk fun L hL => u0 (Q5 (c := (a0.fc == 3)) Z Z Z Z Z) <| Qr Z Z <| rt (hL _ ?_);refine QY Z h (fun h => ?_) fun h => ?_
        · refine tl fun L hL => u0 (Q2 Z Z Z Z Z Z Z Z Z) <| u0 (Q1 Z Z Z Z Z Z) ?_;obtain ⟨v4, hv4, h⟩ := h;refine u0 (Qd (Zb _ _ _ _ hv4) Z Z (.cons (.c (.p _)) (.cons (.c (.p _)) (.cons (.c (.p _)) .nil))) Z Z Z) <| Qr Z Z <| Qr Z Z ?_;refine rt (hL _ (hL1 _ _ h (QG.nm [3, 4, 5] [] Z (by kernel_rfl))))
        · refine Zo (fun (p5 : Bool) => (⟨[(1, .c (.ptr (1, 0) 0 0)), (4, .c (.p (.v (.bool ((a0.fy == 0)))))), (5, .c (.p (.v (.bool ((a0.fa3 == 0)))))), (13, .c (.p (.v (.int .i64 a0.fc)))), (34, .c (.p (.v (.bool p5))))], [((1, 0), some (.box (List.map CV.p (KU a0))))]⟩ : St)) h (fun p5 h => ?_) (fun J5 L5 hL5 h => ?_)
          · refine QY Z h (fun h => ?_) fun h => ?_
            · refine tl fun L hL => u0 (Q2 Z Z Z Z Z Z Z Z Z) <| u0 (Q1 Z Z Z Z Z Z) ?_;obtain ⟨v6, hv6, h⟩ := h;refine u0 (Qd (Zb _ _ _ _ hv6) Z Z (.cons (.c (.p _)) (.cons (.c (.p _)) (.cons (.c (.p _)) .nil))) Z Z Z) <| Qr Z Z ?_;refine rt (hL _ (hL1 _ _ h (QG.nm [3, 4, 5] [] Z (by kernel_rfl))))
            · refine tk fun L hL => u0 (Q5 (c := (a0.fc == 6)) Z Z Z Z Z) <| Qr Z Z <| rt (hL _ ?_);refine QY Z h (fun h => ?_) fun h => ?_
              · refine tl fun L hL => u0 (Q2 Z Z Z Z Z Z Z Z Z) <| u0 (Q1 Z Z Z Z Z Z) ?_;obtain ⟨v7, hv7, h⟩ := h;refine u0 (Qd (Zb _ _ _ _ hv7) Z Z (.cons (.c (.p _)) (.cons (.c (.p _)) (.cons (.c (.p _)) .nil))) Z Z Z) <| mv Z <| Q3 Z Z Q9 (fun hg => Q2 Z Z Z Z Z Z Z Z Z) <| Q3 Z Z Q9 (fun hg => Q1 (Q8 hg) Z Z Z Z Z) ?_;refine Q3 Z Z Q9 (fun hg => E2 (by decide) (Q8 hg) Z Z Z) ?_;refine Q3 Z Z Q9 (fun hg => Q5 (c := ((a0.f3.tmod 2) == 0)) (Q8 hg) Z Z Z Z) <| u0 (Qa (v := .bool (((a0.f3.tmod 2) == 0))) (w := .bool false) Z Z Q9 Z Qf Z Z Z) <| Qr Z Z ?_;refine rt (hL _ (hL1 _ _ h (QG.nm [3, 4, 5] [] Z (by kernel_rfl))))
              · refine tk fun L hL => Qr Z Z <| rt (hL _ ?_);obtain rfl := h;exact Qe (hQ _ _ (QX Z Z))
          · refine tk fun L hL => u0 (Q5 (c := (a0.fc == 4)) Z Z Z Z Z) <| Qr Z Z <| rt (hL _ ?_);refine QY Z h (fun h => ?_) fun h => ?_
            · refine Qg (hL5 _ _ h (QG.nm [1, 4, 5, 13, 34] [((1, 0), (1, 0))] Z (by kernel_rfl)))
            · refine tl fun L hL => u0 (Q5 (c := (a0.fc == 5)) Z Z Z Z Z) <| Qr Z Z ?_;refine rt (hL _ (hL5 _ _ h (QG.nm [1, 4, 5, 13, 34] [((1, 0), (1, 0))] Z (by kernel_rfl))))
set_option maxRecDepth 100000
set_option maxHeartbeats 4000000
def Ki (a0 : QB) (Q : Int → Prop) : Prop :=
 ∃ v2, QJ a0.fc 1 7 v2 ∧ (((!(v2)) = true → Q 8) ∧ ((!(v2)) = false → ∃ (v3 : Bool), (((bif (a0.fc == 2) then true else (a0.fc == 6))) = true → Kt a0.fu v3) ∧ ((((bif (bif (a0.fc == 2) then true else (a0.fc == 6)) then !(v3) else false)) = true → Q 7) ∧ (((bif (bif (a0.fc == 2) then true else (a0.fc == 6)) then !(v3) else false)) = false → ∃ (v4 : Bool), (((a0.fc == 5)) = true → QJ a0.fi 0 32 v4) ∧ ((((bif (a0.fc == 5) then !(v4) else false)) = true → Q 5) ∧ (((bif (a0.fc == 5) then !(v4) else false)) = false → ∃ (v5 : Bool), (((a0.fc == 7)) = true → QJ a0.f7 1 1000000 v5) ∧ ∃ (v6 : Bool), ((((a0.fc == 7) && !(!(v5)))) = true → QJ a0.fa4 0 a0.f7 v6) ∧ ((((bif (a0.fc == 7) then (bif !(v5) then true else !(v6)) else false)) = true → Q 5) ∧ (((bif (a0.fc == 7) then (bif !(v5) then true else !(v6)) else false)) = false → ((((bif (bif (bif !((bif (a0.fc == 2) then true else (a0.fc == 6))) then (!(a0.fu.toList == ((⟨#[]⟩ : ByteArray)).toList)) else false) then true else (bif (a0.fc != 5) then (a0.fi != 0) else false)) then true else (bif (a0.fc != 7) then (bif (a0.fa4 != 0) then true else (a0.f7 != 0)) else false))) = true → Q 18) ∧ (((bif (bif (bif !((bif (a0.fc == 2) then true else (a0.fc == 6))) then (!(a0.fu.toList == ((⟨#[]⟩ : ByteArray)).toList)) else false) then true else (bif (a0.fc != 5) then (a0.fi != 0) else false)) then true else (bif (a0.fc != 7) then (bif (a0.fa4 != 0) then true else (a0.f7 != 0)) else false))) = false → Q 0))))))))))
def Z1 (a0 : QB) (r : Int) : Prop := Ki a0 fun x => r = x
theorem VG (a0 : QB) (r : Int) (h : Z1 a0 r) : Qq Try.prog 38 [.agg (Jq a0)] [.c (.p (.v (.int .i64 r)))] [] := by
  refine Qp tb Try.func38 Z (by kernel_rfl) Z Z (Nat.le_of_ble_eq_true Z) Z ?_;intro E;unfold Z1 Ki at h;refine Zx (fun Q hQ => ?_);refine tk fun L hL => u1 (QL Z Z) <| Qr Z Z <| rt (hL _ ?_);refine tk fun L hL => u0 (Q2 Z Z Z Z Z Z Z Z Z) <| u0 (Q1 Z Z Z Z Z Z) <| u0 (Q5 (c := (a0.fc == 2)) Z Z Z Z Z) <| mv Z <| Q3 Z Z Q6 (fun hg => Q2 Z Z Z Z Z Z Z Z Z) <| Q3 Z Z Q6 (fun hg => Q1 (Q8 hg) Z Z Z Z Z) <| Q3 Z Z Q6 (fun hg => Q5 (c := (a0.fc == 6)) (Q8 hg) Z Z Z Z) <| u0 (Qb (v := .bool true) (w := .bool ((a0.fc == 6))) Z Z Q6 Z Qf Z Z Z) <| Qr Z Z <| rt (hL _ ?_);refine sk fun L1 hL1 => Ql <| tk fun L hL => u0 (Q2 Z Z Z Z Z Z Z Z Z) <| u0 (Q1 Z Z Z Z Z Z) ?_;obtain ⟨v2, hv2, h⟩ := h;refine u0 (Qd (Zb _ _ _ _ hv2) Z Z (.cons (.c (.p _)) (.cons (.c (.p _)) (.cons (.c (.p _)) .nil))) Z Z Z) <| u0 (Qt Z Z Z) <| Qr Z Z <| rt (hL _ ?_);refine QY Z h (fun h => ?_) fun h => ?_
  · refine tk fun L hL => Qr Z Z <| rt (hL _ ?_);obtain rfl := h;exact Qe (hQ _ _ (QX Z Z))
  · refine tk fun L hL => mv Z <| mv Z <| Q3 Z Z Q9 (fun hg => Q2 Z Z Z Z Z Z Z Z Z) <| Q3 Z Z Q9 (fun hg => Q1 (Q8 hg) Z Z Z Z Z) ?_;obtain ⟨v3, hv3, h⟩ := h;refine Q3 Z Z Q9 (fun hg => Qd (XW _ _ (hv3 hg)) Z Z (.cons (QS hg (.c (.p _))) .nil) Z Z Z) <| Q3 Z Z Q9 (fun hg => Qt (Q8 hg) Z Z) <| u0 (Qa (v := .bool (!(v3))) (w := .bool false) Z Z Q9 Z Qf Z Z Z) <| Qr Z Z <| rt (hL _ ?_);refine QY Z h (fun h => ?_) fun h => ?_
    · refine tk fun L hL => Qr Z Z <| rt (hL _ ?_);obtain rfl := h;exact Qe (hQ _ _ (QX Z Z))
    · refine tk fun L hL => u0 (Q2 Z Z Z Z Z Z Z Z Z) <| u0 (Q1 Z Z Z Z Z Z) <| u0 (Q5 (c := (a0.fc == 5)) Z Z Z Z Z) <| mv Z <| Q3 Z Z Q9 (fun hg => Q2 Z Z Z Z Z Z Z Z Z) <| Q3 Z Z Q9 (fun hg => Q1 (Q8 hg) Z Z Z Z Z) ?_;obtain ⟨v4, hv4, h⟩ := h;refine Q3 Z Z Q9 (fun hg => Qd (Zb _ _ _ _ (hv4 hg)) Z Z (.cons (QS hg (.c (.p _))) (.cons (.c (.p _)) (.cons (.c (.p _)) .nil))) Z Z Z) <| Q3 Z Z Q9 (fun hg => Qt (Q8 hg) Z Z) <| u0 (Qa (v := .bool (!(v4))) (w := .bool false) Z Z Q9 Z Qf Z Z Z) <| Qr Z Z <| rt (hL _ ?_);refine QY Z h (fun h => ?_) fun h => ?_
      · refine tk fun L hL => Qr Z Z <| rt (hL _ ?_);obtain rfl := h;exact Qe (hQ _ _ (QX Z Z))
      · refine tk fun L hL => u0 (Q2 Z Z Z Z Z Z Z Z Z) <| u0 (Q1 Z Z Z Z Z Z) <| u0 (Q5 (c := (a0.fc == 7)) Z Z Z Z Z) <| mv Z <| Q3 Z Z Q9 (fun hg => Q2 Z Z Z Z Z Z Z Z Z) <| Q3 Z Z Q9 (fun hg => Q1 (Q8 hg) Z Z Z Z Z) ?_;obtain ⟨v5, hv5, h⟩ := h;refine Q3 Z Z Q9 (fun hg => Qd (Zb _ _ _ _ (hv5 hg)) Z Z (.cons (QS hg (.c (.p _))) (.cons (.c (.p _)) (.cons (.c (.p _)) .nil))) Z Z Z) <| Q3 Z Z Q9 (fun hg => Qt (Q8 hg) Z Z) <| Q3 Z Z Q9 (fun hg => Q7 (Q8 hg) Z) <| Qc Z Z QC (fun hg => Q2 Z Z Z Z Z Z Z Z Z) <| Qc Z Z QC (fun hg => Q1 (Q8 hg) Z Z Z Z Z) <| Qc Z Z QC (fun hg => Q2 Z Z Z Z Z Z Z Z Z) <| Qc Z Z QC (fun hg => Q1 (Q8 hg) Z Z Z Z Z) ?_;obtain ⟨v6, hv6, h⟩ := h;refine Qc Z Z QC (fun hg => Qd (Zb _ _ _ _ (hv6 hg)) Z Z (.cons (QS hg (.c (.p _))) (.cons (.c (.p _)) (.cons (QS hg (.c (.p _))) .nil))) Z Z Z) <| Qc Z Z QC (fun hg => Qt (Q8 hg) Z Z) <| Q3 Z Z Q9 (fun hg => Qb (v := .bool true) (w := .bool (!(v6))) (Q8 hg) Z (Jg hg) Z Qf Z Z Z) <| u0 (Qa (v := .bool ((bif !(v5) then true else !(v6)))) (w := .bool false) Z Z Q9 Z Qf Z Z Z) <| Qr Z Z <| rt (hL _ ?_)
        refine QF (st' := ⟨[(1, .c (.ptr (1, 0) 0 0)), (3, .c (.p (.v (.bool ((bif (a0.fc == 2) then true else (a0.fc == 6))))))), (35, .c (.p (.v (.bool ((bif (a0.fc == 7) then (bif !(v5) then true else !(v6)) else false))))))], [((1, 0), some (.box (List.map CV.p (Jq a0))))]⟩) (QG.nm [1, 3, 35] [((1, 0), (1, 0))] Z Z) ?_;refine QY Z h (fun h => ?_) fun h => ?_
        · refine tk fun L hL => Qr Z Z <| rt (hL _ ?_);obtain rfl := h;exact Qe (hQ _ _ (QX Z Z))
        · refine tk fun L hL => mv Z <| u0 (Qt Z Z Z) <| mv Z <| Q3 Z Z Q9 (fun hg => Q2 Z Z Z Z Z Z Z Z Z) <| Q3 Z Z Q9 (fun hg => Q1 (Q8 hg) Z Z Z Z Z) <| Q3 Z Z Q9 (fun hg => JM (c := (!(a0.fu.toList == ((⟨#[]⟩ : ByteArray)).toList))) (Q8 hg) Z Z Z Z) <| u0 (Qa (v := .bool ((!(a0.fu.toList == ((⟨#[]⟩ : ByteArray)).toList)))) (w := .bool false) Z Z Q9 Z Qf Z Z Z) <| mv Z <| Q3 Z Z Q6 (fun hg => Q2 Z Z Z Z Z Z Z Z Z) <| Q3 Z Z Q6 (fun hg => Q1 (Q8 hg) Z Z Z Z Z) <| Q3 Z Z Q6 (fun hg => Q5 (c := (a0.fc != 5)) (Q8 hg) Z Z Z Z) <| Q3 Z Z Q6 (fun hg => Q7 (Q8 hg) Z) <| Qc Z Z Qh (fun hg => Q2 Z Z Z Z Z Z Z Z Z) <| Qc Z Z Qh (fun hg => Q1 (Q8 hg) Z Z Z Z Z) <| Qc Z Z Qh (fun hg => Q5 (c := (a0.fi != 0)) (Q8 hg) Z Z Z Z) <| Q3 Z Z Q6 (fun hg => Qa (v := .bool ((a0.fi != 0))) (w := .bool false) (Q8 hg) Z (Z5 hg) Z Qf Z Z Z) <| u0 (Qb (v := .bool true) (w := .bool ((bif (a0.fc != 5) then (a0.fi != 0) else false))) Z Z Q6 Z Qf Z Z Z) <| mv Z <| Q3 Z Z Q6 (fun hg => Q2 Z Z Z Z Z Z Z Z Z) <| Q3 Z Z Q6 (fun hg => Q1 (Q8 hg) Z Z Z Z Z) <| Q3 Z Z Q6 (fun hg => Q5 (c := (a0.fc != 7)) (Q8 hg) Z Z Z Z) <| Q3 Z Z Q6 (fun hg => Q7 (Q8 hg) Z) <| Qc Z Z Qh (fun hg => Q2 Z Z Z Z Z Z Z Z Z) ?_
          refine Qc Z Z Qh (fun hg => Q1 (Q8 hg) Z Z Z Z Z) <| Qc Z Z Qh (fun hg => Q5 (c := (a0.fa4 != 0)) (Q8 hg) Z Z Z Z) <| Qc Z Z Qh (fun hg => Q7 (Q8 hg) Z) <| Qc Z Z QC (fun hg => Q2 Z Z Z Z Z Z Z Z Z) <| Qc Z Z QC (fun hg => Q1 (Q8 hg) Z Z Z Z Z) <| Qc Z Z QC (fun hg => Q5 (c := (a0.f7 != 0)) (Q8 hg) Z Z Z Z) <| Qc Z Z Qh (fun hg => Qb (v := .bool true) (w := .bool ((a0.f7 != 0))) (Q8 hg) Z (Jg hg) Z Qf Z Z Z) <| Q3 Z Z Q6 (fun hg => Qa (v := .bool ((bif (a0.fa4 != 0) then true else (a0.f7 != 0)))) (w := .bool false) (Q8 hg) Z (Z5 hg) Z Qf Z Z Z) <| u0 (Qb (v := .bool true) (w := .bool ((bif (a0.fc != 7) then (bif (a0.fa4 != 0) then true else (a0.f7 != 0)) else false))) Z Z Q6 Z Qf Z Z Z) <| Qr Z Z <| rt (hL _ ?_);refine QY Z h (fun h => ?_) fun h => ?_
          · refine tk fun L hL => Qr Z Z <| rt (hL _ ?_);obtain rfl := h;exact Qe (hQ _ _ (QX Z Z))
          · refine Qg (hL1 _ ?_);refine QF (st' := ⟨[], []⟩) (QG.nm [] [] Z Z) ?_;refine tk fun L hL => Qr Z Z <| rt (hL _ ?_);obtain rfl := h;exact Qe (hQ _ _ (QX Z Z))
def Jl (a0 : Qu) (Q : Int → Prop) : Prop :=
 ∃ v2, QH a0.fc 1 17 v2 ∧ (((!(v2)) = true → Q 8) ∧ ((!(v2)) = false → ∃ v3, J0 a0.fc v3 ∧ ∃ (v5 : Bool), (v3.fe0 = true → ZQ a0.fa7 v5) ∧ ∃ (v6 : Bool), (((!((bif v3.fe0 then !(v5) else false)) && v3.fe1)) = true → ZQ a0.fa2 v6) ∧ ((((bif (bif v3.fe0 then !(v5) else false) then true else (bif v3.fe1 then !(v6) else false))) = true → Q 6) ∧ (((bif (bif v3.fe0 then !(v5) else false) then true else (bif v3.fe1 then !(v6) else false))) = false → ∃ v8, Zw a0 v3.fe2 false v8 ∧ ((((v8 != 0)) = true → Q v8) ∧ (((v8 != 0)) = false → jn (fun (p9 : Unit) => ∃ v12, Zw a0 false v3.fe4 v12 ∧ ((((v12 != 0)) = true → Q v12) ∧ (((v12 != 0)) = false → ((((bif v3.fe5 then decide (((a0.f6.length : Int)) > 64) else false)) = true → Q 11) ∧ (((bif v3.fe5 then decide (((a0.f6.length : Int)) > 64) else false)) = false → ∃ (v15 : Bool), (v3.fe6 = true → QH a0.fq 1 1048576 v15) ∧ ∃ (v16 : Bool), (((v3.fe6 && !(!(v15)))) = true → QH a0.f5 1 1048576 v16) ∧ ((((bif v3.fe6 then (bif !(v15) then true else !(v16)) else false)) = true → Q 5) ∧ (((bif v3.fe6 then (bif !(v15) then true else !(v16)) else false)) = false → ∃ (v18 : Bool), (v3.fe7 = true → QH a0.fo 0 3 v18) ∧ ∃ (v19 : Bool), (((!((bif v3.fe7 then !(v18) else false)) && v3.fe8)) = true → QH a0.fa5 0 15 v19) ∧ ∃ (v20 : Bool), (((!((bif (bif v3.fe7 then !(v18) else false) then true else (bif v3.fe8 then !(v19) else false))) && v3.fe9)) = true → QH a0.f8 0 3 v20) ∧ ∃ (v21 : Bool), (((!((bif (bif (bif v3.fe7 then !(v18) else false) then true else (bif v3.fe8 then !(v19) else false)) then true else (bif v3.fe9 then !(v20) else false))) && v3.fe10)) = true → QH a0.fi 0 32 v21) ∧ ((((bif (bif (bif (bif v3.fe7 then !(v18) else false) then true else (bif v3.fe8 then !(v19) else false)) then true else (bif v3.fe9 then !(v20) else false)) then true else (bif v3.fe10 then !(v21) else false))) = true → Q 5) ∧ (((bif (bif (bif (bif v3.fe7 then !(v18) else false) then true else (bif v3.fe8 then !(v19) else false)) then true else (bif v3.fe9 then !(v20) else false)) then true else (bif v3.fe10 then !(v21) else false))) = false → jn (fun (p22 : Unit) => ((((bif v3.fe12 then decide (((a0.fv.length : Int)) > 65536) else false)) = true → Q 11) ∧ (((bif v3.fe12 then decide (((a0.fv.length : Int)) > 65536) else false)) = false → ((((bif (bif (bif (bif (bif (bif (bif (bif (bif (bif (bif (bif (bif !(v3.fe0) then (!(a0.fa7.toList == ((⟨#[]⟩ : ByteArray)).toList)) else false) then true else (bif !(v3.fe1) then (!(a0.fa2.toList == ((⟨#[]⟩ : ByteArray)).toList)) else false)) then true else (bif !(v3.fe2) then decide (((a0.fj.length : Int)) > 0) else false)) then true else (bif !(v3.fe3) then (!((a0.fg.fc == 0) && ((a0.fg.f3 == 0) && ((a0.fg.fy == 0) && ((a0.fg.fa3 == 0) && true))))) else false)) then true else (bif !(v3.fe4) then decide (((a0.fp.length : Int)) > 0) else false)) then true else (bif !(v3.fe5) then decide (((a0.f6.length : Int)) > 0) else false)) then true else (bif !(v3.fe6) then (bif (a0.fq != 0) then true else (a0.f5 != 0)) else false)) then true else (bif !(v3.fe7) then (a0.fo != 0) else false)) then true else (bif !(v3.fe8) then (a0.fa5 != 0) else false)) then true else (bif !(v3.fe9) then (a0.f8 != 0) else false)) then true else (bif !(v3.fe10) then (a0.fi != 0) else false)) then true else (bif !(v3.fe11) then (!((a0.ff.fc == 0) && ((a0.ff.fu.toList == ByteArray.empty.toList) && ((a0.ff.fi == 0) && ((a0.ff.fa4 == 0) && ((a0.ff.f7 == 0) && true)))))) else false)) then true else (bif !(v3.fe12) then decide (((a0.fv.length : Int)) > 0) else false))) = true → Q 18) ∧ (((bif (bif (bif (bif (bif (bif (bif (bif (bif (bif (bif (bif (bif !(v3.fe0) then (!(a0.fa7.toList == ((⟨#[]⟩ : ByteArray)).toList)) else false) then true else (bif !(v3.fe1) then (!(a0.fa2.toList == ((⟨#[]⟩ : ByteArray)).toList)) else false)) then true else (bif !(v3.fe2) then decide (((a0.fj.length : Int)) > 0) else false)) then true else (bif !(v3.fe3) then (!((a0.fg.fc == 0) && ((a0.fg.f3 == 0) && ((a0.fg.fy == 0) && ((a0.fg.fa3 == 0) && true))))) else false)) then true else (bif !(v3.fe4) then decide (((a0.fp.length : Int)) > 0) else false)) then true else (bif !(v3.fe5) then decide (((a0.f6.length : Int)) > 0) else false)) then true else (bif !(v3.fe6) then (bif (a0.fq != 0) then true else (a0.f5 != 0)) else false)) then true else (bif !(v3.fe7) then (a0.fo != 0) else false)) then true else (bif !(v3.fe8) then (a0.fa5 != 0) else false)) then true else (bif !(v3.fe9) then (a0.f8 != 0) else false)) then true else (bif !(v3.fe10) then (a0.fi != 0) else false)) then true else (bif !(v3.fe11) then (!((a0.ff.fc == 0) && ((a0.ff.fu.toList == ByteArray.empty.toList) && ((a0.ff.fi == 0) && ((a0.ff.fa4 == 0) && ((a0.ff.f7 == 0) && true)))))) else false)) then true else (bif !(v3.fe12) then decide (((a0.fv.length : Int)) > 0) else false))) = false → Q 0))))) (fun (J22 : Unit → Prop) => ((v3.fe11 = true → ∃ v23, Z1 a0.ff v23 ∧ ((((v23 != 0)) = true → Q v23) ∧ (((v23 != 0)) = false → J22 (())))) ∧ (v3.fe11 = false → J22 (()))))))))))))) (fun (J9 : Unit → Prop) => ((v3.fe3 = true → ∃ v10, QZ a0.fg v10 ∧ ((((v10 != 0)) = true → Q v10) ∧ (((v10 != 0)) = false → J9 (())))) ∧ (v3.fe3 = false → J9 (()))))))))))
def ZW (a0 : Qu) (r : Int) : Prop := Jl a0 fun x => r = x
theorem Yh (a0 : Qu) (r : Int) (h : ZW a0 r) : Qq Try.prog 23 [.agg (Zp a0)] [.c (.p (.v (.int .i64 r)))] [] := by
  refine Qp tb Try.func23 Z (by kernel_rfl) Z Z (Nat.le_of_ble_eq_true Z) Z ?_;intro E;unfold ZW Jl at h;refine Zx (fun Q hQ => ?_);refine tk fun L hL => u1 (QL Z Z) <| Qr Z Z <| rt (hL _ ?_);refine sk fun L1 hL1 => tk fun L hL => u0 (Q2 Z Z Z Z Z Z Z Z Z) <| u0 (Q1 Z Z Z Z Z Z) ?_;obtain ⟨v2, hv2, h⟩ := h;refine u0 (Qd (Za _ _ _ _ hv2) Z Z (.cons (.c (.p _)) (.cons (.c (.p _)) (.cons (.c (.p _)) .nil))) Z Z Z) <| u0 (Qt Z Z Z) <| rt (hL _ ?_);refine QY Z h (fun h => ?_) fun h => ?_
  · refine tk fun L hL => Qr Z Z <| rt (hL _ ?_);obtain rfl := h;exact Qe (hQ _ _ (QX Z Z))
  · refine Qg (hL1 _ ?_);refine tk fun L hL => u0 (Q2 Z Z Z Z Z Z Z Z Z) <| u0 (Q1 Z Z Z Z Z Z) ?_;obtain ⟨v3, hv3, h⟩ := h;refine u0 (Qd (Ul _ _ hv3) Z Z (.cons (.c (.p _)) .nil) Z Z Z) <| u1 (Z8 Z Z Z) <| un (Zr Z Z Z Z Z Z Z Z Z) <| rt (hL _ ?_);refine sk fun L4 hL4 => tk fun L hL => ?_;refine u0 (Qm (j := 0) Z Z Z Z (by decide) Z Z Z Z Z Z) ?_;refine u0 (Q1 Z Z Z Z Z Z) <| mv Z <| Q3 Z Z Q9 (fun hg => Q2 Z Z Z Z Z Z Z Z Z) <| Q3 Z Z Q9 (fun hg => Q1 (Q8 hg) Z Z Z Z Z) ?_;obtain ⟨v5, hv5, h⟩ := h;refine Q3 Z Z Q9 (fun hg => Qd (V2 _ _ (hv5 hg)) Z Z (.cons (QS hg (.c (.p _))) .nil) Z Z Z) <| Q3 Z Z Q9 (fun hg => Qt (Q8 hg) Z Z) <| u0 (Qa (v := .bool (!(v5))) (w := .bool false) Z Z Q9 Z Qf Z Z Z) <| mv Z ?_;refine Q3 Z Z Q6 (fun hg => Qm (j := 1) Z Z Z Z (by decide) Z Z Z Z Z Z) ?_;refine Q3 Z Z Q6 (fun hg => Q1 (Q8 hg) Z Z Z Z Z) <| Q3 Z Z Q6 (fun hg => Q7 (Q8 hg) Z) <| Qc Z Z Qh (fun hg => Q2 Z Z Z Z Z Z Z Z Z) <| Qc Z Z Qh (fun hg => Q1 (Q8 hg) Z Z Z Z Z) ?_
    obtain ⟨v6, hv6, h⟩ := h;refine Qc Z Z Qh (fun hg => Qd (V2 _ _ (hv6 hg)) Z Z (.cons (QS hg (.c (.p _))) .nil) Z Z Z) <| Qc Z Z Qh (fun hg => Qt (Q8 hg) Z Z) <| Q3 Z Z Q6 (fun hg => Qa (v := .bool (!(v6))) (w := .bool false) (Q8 hg) Z (Z5 hg) Z Qf Z Z Z) <| u0 (Qb (v := .bool true) (w := .bool ((bif v3.fe1 then !(v6) else false))) Z Z Q6 Z Qf Z Z Z) <| rt (hL _ ?_);refine QY Z h (fun h => ?_) fun h => ?_
    · refine tk fun L hL => Qr Z Z <| rt (hL _ ?_);obtain rfl := h;exact Qe (hQ _ _ (QX Z Z))
    · refine Qg (hL4 _ ?_);refine QF (st' := ⟨[(1, .c (.ptr (1, 0) 0 0)), (3, .c (.ptr (3, 0) 0 0))], [((1, 0), some (.box (List.map CV.p (Zp a0)))), ((3, 0), some (.box (List.map CV.p (KJ v3))))]⟩) (QG.nm [1, 3] [((1, 0), (1, 0)), ((3, 0), (3, 0))] Z Z) ?_;refine sk fun L7 hL7 => tk fun L hL => u0 (Qo Z Z Z Z Z Z Z) ?_;refine u0 (Qm (j := 2) Z Z Z Z (by decide) Z Z Z Z Z Z) ?_;refine u0 (Q1 Z Z Z Z Z Z) ?_;obtain ⟨v8, hv8, h⟩ := h;refine u0 (Qd (Xj _ _ _ _ hv8) Z Z (.cons (.agg (.pp (.pp (.pp (.pp (.pp (.pp (.pp (.pp (.pp (.pp (.pp (.pp (.pp (.pp (.pp (.pp (.pp (.pp (.pp (.pp (.pp (.pp .nil))))))))))))))))))))))) (.cons (.c (.p _)) (.cons (.c (.p _)) .nil))) Z Z Z) <| Qr Z Z <| rt (hL _ ?_);refine tk fun L hL => mv Z <| u0 (Q5 (c := (v8 != 0)) Z Z Z Z Z) <| rt (hL _ ?_);refine QY Z h (fun h => ?_) fun h => ?_
      · refine tk fun L hL => mv Z <| Qr Z Z <| rt (hL _ ?_);obtain rfl := h;exact Qe (hQ _ _ (QX Z Z))
      · refine Qg (hL7 _ ?_);refine Zo (fun (p9 : Unit) => (⟨[(1, .c (.ptr (1, 0) 0 0)), (3, .c (.ptr (3, 0) 0 0))], [((1, 0), some (.box (List.map CV.p (Zp a0)))), ((3, 0), some (.box (List.map CV.p (KJ v3))))]⟩ : St)) h (fun p9 h => ?_) (fun J9 L9 hL9 h => ?_)
        · refine sk fun L11 hL11 => tk fun L hL => u0 (Qo Z Z Z Z Z Z Z) ?_;refine u0 (Qm (j := 4) Z Z Z Z (by decide) Z Z Z Z Z Z) ?_;refine u0 (Q1 Z Z Z Z Z Z) ?_;obtain ⟨v12, hv12, h⟩ := h;refine u0 (Qd (Xj _ _ _ _ hv12) Z Z (.cons (.agg (.pp (.pp (.pp (.pp (.pp (.pp (.pp (.pp (.pp (.pp (.pp (.pp (.pp (.pp (.pp (.pp (.pp (.pp (.pp (.pp (.pp (.pp .nil))))))))))))))))))))))) (.cons (.c (.p _)) (.cons (.c (.p _)) .nil))) Z Z Z) <| Qr Z Z <| rt (hL _ ?_);refine tk fun L hL => mv Z <| u0 (Q5 (c := (v12 != 0)) Z Z Z Z Z) <| rt (hL _ ?_);refine QY Z h (fun h => ?_) fun h => ?_
          · refine tk fun L hL => mv Z <| Qr Z Z <| rt (hL _ ?_);obtain rfl := h;exact Qe (hQ _ _ (QX Z Z))
          · refine Qg (hL11 _ ?_);refine sk fun L13 hL13 => tk fun L hL => ?_;refine u0 (Qm (j := 5) Z Z Z Z (by decide) Z Z Z Z Z Z) ?_;refine u0 (Q1 Z Z Z Z Z Z) <| mv Z <| Q3 Z Z Q9 (fun hg => Q2 Z Z Z Z Z Z Z Z Z) <| Q3 Z Z Q9 (fun hg => Q1 (Q8 hg) Z Z Z Z Z) <| Q3 Z Z Q9 (fun hg => Qi (Q8 hg) Z Z Z) <| Q3 Z Z Q9 (fun hg => Q5 (c := decide (((a0.f6.length : Int)) > 64)) (Q8 hg) Z Z Z Z) <| u0 (Qa (v := .bool (decide (((a0.f6.length : Int)) > 64))) (w := .bool false) Z Z Q9 Z Qf Z Z Z) <| rt (hL _ ?_);refine QY Z h (fun h => ?_) fun h => ?_
            · refine tk fun L hL => Qr Z Z <| rt (hL _ ?_);obtain rfl := h;exact Qe (hQ _ _ (QX Z Z))
            · refine Qg (hL13 _ ?_);refine QF (st' := ⟨[(1, .c (.ptr (1, 0) 0 0)), (3, .c (.ptr (3, 0) 0 0))], [((1, 0), some (.box (List.map CV.p (Zp a0)))), ((3, 0), some (.box (List.map CV.p (KJ v3))))]⟩) (QG.nm [1, 3] [((1, 0), (1, 0)), ((3, 0), (3, 0))] Z Z) ?_;refine sk fun L14 hL14 => tk fun L hL => ?_;refine u0 (Qm (j := 6) Z Z Z Z (by decide) Z Z Z Z Z Z) ?_;refine u0 (Q1 Z Z Z Z Z Z) <| mv Z <| Q3 Z Z Q9 (fun hg => Q2 Z Z Z Z Z Z Z Z Z) <| Q3 Z Z Q9 (fun hg => Q1 (Q8 hg) Z Z Z Z Z) ?_;obtain ⟨v15, hv15, h⟩ := h;refine Q3 Z Z Q9 (fun hg => Qd (Za _ _ _ _ (hv15 hg)) Z Z (.cons (QS hg (.c (.p _))) (.cons (.c (.p _)) (.cons (.c (.p _)) .nil))) Z Z Z) <| Q3 Z Z Q9 (fun hg => Qt (Q8 hg) Z Z) <| Q3 Z Z Q9 (fun hg => Q7 (Q8 hg) Z) <| Qc Z Z QC (fun hg => Q2 Z Z Z Z Z Z Z Z Z) <| Qc Z Z QC (fun hg => Q1 (Q8 hg) Z Z Z Z Z) ?_;obtain ⟨v16, hv16, h⟩ := h;refine Qc Z Z QC (fun hg => Qd (Za _ _ _ _ (hv16 hg)) Z Z (.cons (QS hg (.c (.p _))) (.cons (.c (.p _)) (.cons (.c (.p _)) .nil))) Z Z Z) <| Qc Z Z QC (fun hg => Qt (Q8 hg) Z Z) <| Q3 Z Z Q9 (fun hg => Qb (v := .bool true) (w := .bool (!(v16))) (Q8 hg) Z (Jg hg) Z Qf Z Z Z) <| u0 (Qa (v := .bool ((bif !(v15) then true else !(v16)))) (w := .bool false) Z Z Q9 Z Qf Z Z Z) <| rt (hL _ ?_)
              refine QY Z h (fun h => ?_) fun h => ?_
              · refine tk fun L hL => Qr Z Z <| rt (hL _ ?_);obtain rfl := h;exact Qe (hQ _ _ (QX Z Z))
              · refine Qg (hL14 _ ?_);refine QF (st' := ⟨[(1, .c (.ptr (1, 0) 0 0)), (3, .c (.ptr (3, 0) 0 0))], [((1, 0), some (.box (List.map CV.p (Zp a0)))), ((3, 0), some (.box (List.map CV.p (KJ v3))))]⟩) (QG.nm [1, 3] [((1, 0), (1, 0)), ((3, 0), (3, 0))] Z Z) ?_;refine sk fun L17 hL17 => tk fun L hL => ?_;refine u0 (Qm (j := 7) Z Z Z Z (by decide) Z Z Z Z Z Z) ?_;refine u0 (Q1 Z Z Z Z Z Z) <| mv Z <| Q3 Z Z Q9 (fun hg => Q2 Z Z Z Z Z Z Z Z Z) <| Q3 Z Z Q9 (fun hg => Q1 (Q8 hg) Z Z Z Z Z) ?_;obtain ⟨v18, hv18, h⟩ := h;refine Q3 Z Z Q9 (fun hg => Qd (Za _ _ _ _ (hv18 hg)) Z Z (.cons (QS hg (.c (.p _))) (.cons (.c (.p _)) (.cons (.c (.p _)) .nil))) Z Z Z) <| Q3 Z Z Q9 (fun hg => Qt (Q8 hg) Z Z) <| u0 (Qa (v := .bool (!(v18))) (w := .bool false) Z Z Q9 Z Qf Z Z Z) <| mv Z ?_;refine Q3 Z Z Q6 (fun hg => Qm (j := 8) Z Z Z Z (by decide) Z Z Z Z Z Z) ?_;refine Q3 Z Z Q6 (fun hg => Q1 (Q8 hg) Z Z Z Z Z) <| Q3 Z Z Q6 (fun hg => Q7 (Q8 hg) Z) <| Qc Z Z Qh (fun hg => Q2 Z Z Z Z Z Z Z Z Z) <| Qc Z Z Qh (fun hg => Q1 (Q8 hg) Z Z Z Z Z) ?_
                obtain ⟨v19, hv19, h⟩ := h;refine Qc Z Z Qh (fun hg => Qd (Za _ _ _ _ (hv19 hg)) Z Z (.cons (QS hg (.c (.p _))) (.cons (.c (.p _)) (.cons (.c (.p _)) .nil))) Z Z Z) <| Qc Z Z Qh (fun hg => Qt (Q8 hg) Z Z) <| Q3 Z Z Q6 (fun hg => Qa (v := .bool (!(v19))) (w := .bool false) (Q8 hg) Z (Z5 hg) Z Qf Z Z Z) <| u0 (Qb (v := .bool true) (w := .bool ((bif v3.fe8 then !(v19) else false))) Z Z Q6 Z Qf Z Z Z) <| mv Z ?_;refine Q3 Z Z Q6 (fun hg => Qm (j := 9) Z Z Z Z (by decide) Z Z Z Z Z Z) ?_;refine Q3 Z Z Q6 (fun hg => Q1 (Q8 hg) Z Z Z Z Z) <| Q3 Z Z Q6 (fun hg => Q7 (Q8 hg) Z) <| Qc Z Z Qh (fun hg => Q2 Z Z Z Z Z Z Z Z Z) <| Qc Z Z Qh (fun hg => Q1 (Q8 hg) Z Z Z Z Z) ?_;obtain ⟨v20, hv20, h⟩ := h;refine Qc Z Z Qh (fun hg => Qd (Za _ _ _ _ (hv20 hg)) Z Z (.cons (QS hg (.c (.p _))) (.cons (.c (.p _)) (.cons (.c (.p _)) .nil))) Z Z Z) <| Qc Z Z Qh (fun hg => Qt (Q8 hg) Z Z) <| Q3 Z Z Q6 (fun hg => Qa (v := .bool (!(v20))) (w := .bool false) (Q8 hg) Z (Z5 hg) Z Qf Z Z Z) <| u0 (Qb (v := .bool true) (w := .bool ((bif v3.fe9 then !(v20) else false))) Z Z Q6 Z Qf Z Z Z) <| mv Z ?_
                refine Q3 Z Z Q6 (fun hg => Qm (j := 10) Z Z Z Z (by decide) Z Z Z Z Z Z) ?_;refine Q3 Z Z Q6 (fun hg => Q1 (Q8 hg) Z Z Z Z Z) <| Q3 Z Z Q6 (fun hg => Q7 (Q8 hg) Z) <| Qc Z Z Qh (fun hg => Q2 Z Z Z Z Z Z Z Z Z) <| Qc Z Z Qh (fun hg => Q1 (Q8 hg) Z Z Z Z Z) ?_;obtain ⟨v21, hv21, h⟩ := h;refine Qc Z Z Qh (fun hg => Qd (Za _ _ _ _ (hv21 hg)) Z Z (.cons (QS hg (.c (.p _))) (.cons (.c (.p _)) (.cons (.c (.p _)) .nil))) Z Z Z) <| Qc Z Z Qh (fun hg => Qt (Q8 hg) Z Z) <| Q3 Z Z Q6 (fun hg => Qa (v := .bool (!(v21))) (w := .bool false) (Q8 hg) Z (Z5 hg) Z Qf Z Z Z) <| u0 (Qb (v := .bool true) (w := .bool ((bif v3.fe10 then !(v21) else false))) Z Z Q6 Z Qf Z Z Z) <| rt (hL _ ?_);refine QY Z h (fun h => ?_) fun h => ?_
                · refine tk fun L hL => Qr Z Z <| rt (hL _ ?_);refine QF (st' := ⟨[(2, .c (.p (.v (.int .i64 5))))], []⟩) (QG.nm [2] [] Z Z) ?_;obtain rfl := h;exact Qe (hQ _ _ (QX Z Z))
                · refine Qg (hL17 _ ?_);refine QF (st' := ⟨[(1, .c (.ptr (1, 0) 0 0)), (3, .c (.ptr (3, 0) 0 0))], [((1, 0), some (.box (List.map CV.p (Zp a0)))), ((3, 0), some (.box (List.map CV.p (KJ v3))))]⟩) (QG.nm [1, 3] [((1, 0), (1, 0)), ((3, 0), (3, 0))] Z Z) ?_;refine Zo (fun (p22 : Unit) => (⟨[(1, .c (.ptr (1, 0) 0 0)), (3, .c (.ptr (3, 0) 0 0))], [((1, 0), some (.box (List.map CV.p (Zp a0)))), ((3, 0), some (.box (List.map CV.p (KJ v3))))]⟩ : St)) h (fun p22 h => ?_) (fun J22 L22 hL22 h => ?_)
                  · refine sk fun L24 hL24 => tk fun L hL => ?_;refine u0 (Qm (j := 12) Z Z Z Z (by decide) Z Z Z Z Z Z) ?_;refine u0 (Q1 Z Z Z Z Z Z) <| mv Z <| Q3 Z Z Q9 (fun hg => Q2 Z Z Z Z Z Z Z Z Z) <| Q3 Z Z Q9 (fun hg => Q1 (Q8 hg) Z Z Z Z Z) <| Q3 Z Z Q9 (fun hg => Qi (Q8 hg) Z Z Z) <| Q3 Z Z Q9 (fun hg => Q5 (c := decide (((a0.fv.length : Int)) > 65536)) (Q8 hg) Z Z Z Z) <| u0 (Qa (v := .bool (decide (((a0.fv.length : Int)) > 65536))) (w := .bool false) Z Z Q9 Z Qf Z Z Z) <| rt (hL _ ?_);refine QY Z h (fun h => ?_) fun h => ?_
                    · refine tk fun L hL => Qr Z Z <| rt (hL _ ?_);obtain rfl := h;exact Qe (hQ _ _ (QX Z Z))
                    · refine Qg (hL24 _ ?_);refine QF (st' := ⟨[(1, .c (.ptr (1, 0) 0 0)), (3, .c (.ptr (3, 0) 0 0))], [((1, 0), some (.box (List.map CV.p (Zp a0)))), ((3, 0), some (.box (List.map CV.p (KJ v3))))]⟩) (QG.nm [1, 3] [((1, 0), (1, 0)), ((3, 0), (3, 0))] Z Z) ?_;refine sk fun L25 hL25 => tk fun L hL => ?_;refine u0 (Qm (j := 0) Z Z Z Z (by decide) Z Z Z Z Z Z) ?_;refine u0 (Q1 Z Z Z Z Z Z) <| u0 (Qt Z Z Z) <| mv Z <| Q3 Z Z Q9 (fun hg => Q2 Z Z Z Z Z Z Z Z Z) <| Q3 Z Z Q9 (fun hg => Q1 (Q8 hg) Z Z Z Z Z) <| Q3 Z Z Q9 (fun hg => JM (c := (!(a0.fa7.toList == ((⟨#[]⟩ : ByteArray)).toList))) (Q8 hg) Z Z Z Z) <| u0 (Qa (v := .bool ((!(a0.fa7.toList == ((⟨#[]⟩ : ByteArray)).toList)))) (w := .bool false) Z Z Q9 Z Qf Z Z Z) <| mv Z ?_;refine Q3 Z Z Q6 (fun hg => Qm (j := 1) Z Z Z Z (by decide) Z Z Z Z Z Z) ?_;refine Q3 Z Z Q6 (fun hg => Q1 (Q8 hg) Z Z Z Z Z) <| Q3 Z Z Q6 (fun hg => Qt (Q8 hg) Z Z) <| Q3 Z Z Q6 (fun hg => Q7 (Q8 hg) Z) <| Qc Z Z Qh (fun hg => Q2 Z Z Z Z Z Z Z Z Z) <| Qc Z Z Qh (fun hg => Q1 (Q8 hg) Z Z Z Z Z) <| Qc Z Z Qh (fun hg => JM (c := (!(a0.fa2.toList == ((⟨#[]⟩ : ByteArray)).toList))) (Q8 hg) Z Z Z Z) <| Q3 Z Z Q6 (fun hg => Qa (v := .bool ((!(a0.fa2.toList == ((⟨#[]⟩ : ByteArray)).toList)))) (w := .bool false) (Q8 hg) Z (Z5 hg) Z Qf Z Z Z) <| u0 (Qb (v := .bool true) (w := .bool ((bif !(v3.fe1) then (!(a0.fa2.toList == ((⟨#[]⟩ : ByteArray)).toList)) else false))) Z Z Q6 Z Qf Z Z Z) <| mv Z ?_
                      refine Q3 Z Z Q6 (fun hg => Qm (j := 2) Z Z Z Z (by decide) Z Z Z Z Z Z) ?_;refine Q3 Z Z Q6 (fun hg => Q1 (Q8 hg) Z Z Z Z Z) <| Q3 Z Z Q6 (fun hg => Qt (Q8 hg) Z Z) <| Q3 Z Z Q6 (fun hg => Q7 (Q8 hg) Z) <| Qc Z Z Qh (fun hg => Q2 Z Z Z Z Z Z Z Z Z) <| Qc Z Z Qh (fun hg => Q1 (Q8 hg) Z Z Z Z Z) <| Qc Z Z Qh (fun hg => Qi (Q8 hg) Z Z Z) <| Qc Z Z Qh (fun hg => Q5 (c := decide (((a0.fj.length : Int)) > 0)) (Q8 hg) Z Z Z Z) <| Q3 Z Z Q6 (fun hg => Qa (v := .bool (decide (((a0.fj.length : Int)) > 0))) (w := .bool false) (Q8 hg) Z (Z5 hg) Z Qf Z Z Z) <| u0 (Qb (v := .bool true) (w := .bool ((bif !(v3.fe2) then decide (((a0.fj.length : Int)) > 0) else false))) Z Z Q6 Z Qf Z Z Z) <| mv Z ?_;refine Q3 Z Z Q6 (fun hg => Qm (j := 3) Z Z Z Z (by decide) Z Z Z Z Z Z) ?_;refine Q3 Z Z Q6 (fun hg => Q1 (Q8 hg) Z Z Z Z Z) <| Q3 Z Z Q6 (fun hg => Qt (Q8 hg) Z Z) <| Q3 Z Z Q6 (fun hg => Q7 (Q8 hg) Z) <| Qc Z Z Qh (fun hg => Q2 Z Z Z Z Z Z Z Z Z) <| Qc Z Z Qh (fun hg => Qo (Q8 hg) Z Z Z Z Z Z) <| Qc Z Z Qh (fun hg => ZE Z Z Z Z Z Z Z) ?_
                      refine Qc Z Z Qh (fun hg => AB (us := [.int .i64 a0.fg.fc, .int .i64 a0.fg.f3, .int .i64 a0.fg.fy, .int .u64 a0.fg.fa3]) (vs := [.int .i64 0, .int .i64 0, .int .i64 0, .int .u64 0]) (c := (!((a0.fg.fc == 0) && ((a0.fg.f3 == 0) && ((a0.fg.fy == 0) && ((a0.fg.fa3 == 0) && true)))))) (Q8 hg) (Q8 hg) (by kernel_rfl) Z Z Z Z Z Z) ?_;refine Q3 Z Z Q6 (fun hg => Qa (v := .bool ((!((a0.fg.fc == 0) && ((a0.fg.f3 == 0) && ((a0.fg.fy == 0) && ((a0.fg.fa3 == 0) && true))))))) (w := .bool false) (Q8 hg) Z (Z5 hg) Z Qf Z Z Z) <| u0 (Qb (v := .bool true) (w := .bool ((bif !(v3.fe3) then (!((a0.fg.fc == 0) && ((a0.fg.f3 == 0) && ((a0.fg.fy == 0) && ((a0.fg.fa3 == 0) && true))))) else false))) Z Z Q6 Z Qf Z Z Z) <| mv Z ?_;refine Q3 Z Z Q6 (fun hg => Qm (j := 4) Z Z Z Z (by decide) Z Z Z Z Z Z) ?_;refine Q3 Z Z Q6 (fun hg => Q1 (Q8 hg) Z Z Z Z Z) <| Q3 Z Z Q6 (fun hg => Qt (Q8 hg) Z Z) <| Q3 Z Z Q6 (fun hg => Q7 (Q8 hg) Z) <| Qc Z Z Qh (fun hg => Q2 Z Z Z Z Z Z Z Z Z) <| Qc Z Z Qh (fun hg => Q1 (Q8 hg) Z Z Z Z Z) <| Qc Z Z Qh (fun hg => Qi (Q8 hg) Z Z Z) <| Qc Z Z Qh (fun hg => Q5 (c := decide (((a0.fp.length : Int)) > 0)) (Q8 hg) Z Z Z Z) <| Q3 Z Z Q6 (fun hg => Qa (v := .bool (decide (((a0.fp.length : Int)) > 0))) (w := .bool false) (Q8 hg) Z (Z5 hg) Z Qf Z Z Z) <| u0 (Qb (v := .bool true) (w := .bool ((bif !(v3.fe4) then decide (((a0.fp.length : Int)) > 0) else false))) Z Z Q6 Z Qf Z Z Z) <| mv Z ?_
                      refine Q3 Z Z Q6 (fun hg => Qm (j := 5) Z Z Z Z (by decide) Z Z Z Z Z Z) ?_;refine Q3 Z Z Q6 (fun hg => Q1 (Q8 hg) Z Z Z Z Z) <| Q3 Z Z Q6 (fun hg => Qt (Q8 hg) Z Z) <| Q3 Z Z Q6 (fun hg => Q7 (Q8 hg) Z) <| Qc Z Z Qh (fun hg => Q2 Z Z Z Z Z Z Z Z Z) <| Qc Z Z Qh (fun hg => Q1 (Q8 hg) Z Z Z Z Z) <| Qc Z Z Qh (fun hg => Qi (Q8 hg) Z Z Z) <| Qc Z Z Qh (fun hg => Q5 (c := decide (((a0.f6.length : Int)) > 0)) (Q8 hg) Z Z Z Z) <| Q3 Z Z Q6 (fun hg => Qa (v := .bool (decide (((a0.f6.length : Int)) > 0))) (w := .bool false) (Q8 hg) Z (Z5 hg) Z Qf Z Z Z) <| u0 (Qb (v := .bool true) (w := .bool ((bif !(v3.fe5) then decide (((a0.f6.length : Int)) > 0) else false))) Z Z Q6 Z Qf Z Z Z) <| mv Z ?_;refine Q3 Z Z Q6 (fun hg => Qm (j := 6) Z Z Z Z (by decide) Z Z Z Z Z Z) ?_;refine Q3 Z Z Q6 (fun hg => Q1 (Q8 hg) Z Z Z Z Z) <| Q3 Z Z Q6 (fun hg => Qt (Q8 hg) Z Z) <| Q3 Z Z Q6 (fun hg => Q7 (Q8 hg) Z) <| Qc Z Z Qh (fun hg => Q2 Z Z Z Z Z Z Z Z Z) <| Qc Z Z Qh (fun hg => Q1 (Q8 hg) Z Z Z Z Z) <| Qc Z Z Qh (fun hg => Q5 (c := (a0.fq != 0)) (Q8 hg) Z Z Z Z) <| Qc Z Z Qh (fun hg => Q7 (Q8 hg) Z) <| Qc Z Z QC (fun hg => Q2 Z Z Z Z Z Z Z Z Z) <| Qc Z Z QC (fun hg => Q1 (Q8 hg) Z Z Z Z Z) <| Qc Z Z QC (fun hg => Q5 (c := (a0.f5 != 0)) (Q8 hg) Z Z Z Z) <| Qc Z Z Qh (fun hg => Qb (v := .bool true) (w := .bool ((a0.f5 != 0))) (Q8 hg) Z (Jg hg) Z Qf Z Z Z) <| Q3 Z Z Q6 (fun hg => Qa (v := .bool ((bif (a0.fq != 0) then true else (a0.f5 != 0)))) (w := .bool false) (Q8 hg) Z (Z5 hg) Z Qf Z Z Z) <| u0 (Qb (v := .bool true) (w := .bool ((bif !(v3.fe6) then (bif (a0.fq != 0) then true else (a0.f5 != 0)) else false))) Z Z Q6 Z Qf Z Z Z) <| mv Z ?_
                      refine Q3 Z Z Q6 (fun hg => Qm (j := 7) Z Z Z Z (by decide) Z Z Z Z Z Z) ?_;refine Q3 Z Z Q6 (fun hg => Q1 (Q8 hg) Z Z Z Z Z) <| Q3 Z Z Q6 (fun hg => Qt (Q8 hg) Z Z) <| Q3 Z Z Q6 (fun hg => Q7 (Q8 hg) Z) <| Qc Z Z Qh (fun hg => Q2 Z Z Z Z Z Z Z Z Z) <| Qc Z Z Qh (fun hg => Q1 (Q8 hg) Z Z Z Z Z) <| Qc Z Z Qh (fun hg => Q5 (c := (a0.fo != 0)) (Q8 hg) Z Z Z Z) <| Q3 Z Z Q6 (fun hg => Qa (v := .bool ((a0.fo != 0))) (w := .bool false) (Q8 hg) Z (Z5 hg) Z Qf Z Z Z) <| u0 (Qb (v := .bool true) (w := .bool ((bif !(v3.fe7) then (a0.fo != 0) else false))) Z Z Q6 Z Qf Z Z Z) <| mv Z ?_;refine Q3 Z Z Q6 (fun hg => Qm (j := 8) Z Z Z Z (by decide) Z Z Z Z Z Z) ?_;refine Q3 Z Z Q6 (fun hg => Q1 (Q8 hg) Z Z Z Z Z) <| Q3 Z Z Q6 (fun hg => Qt (Q8 hg) Z Z) <| Q3 Z Z Q6 (fun hg => Q7 (Q8 hg) Z) <| Qc Z Z Qh (fun hg => Q2 Z Z Z Z Z Z Z Z Z) <| Qc Z Z Qh (fun hg => Q1 (Q8 hg) Z Z Z Z Z) <| Qc Z Z Qh (fun hg => Q5 (c := (a0.fa5 != 0)) (Q8 hg) Z Z Z Z) <| Q3 Z Z Q6 (fun hg => Qa (v := .bool ((a0.fa5 != 0))) (w := .bool false) (Q8 hg) Z (Z5 hg) Z Qf Z Z Z) <| u0 (Qb (v := .bool true) (w := .bool ((bif !(v3.fe8) then (a0.fa5 != 0) else false))) Z Z Q6 Z Qf Z Z Z) <| mv Z ?_
                      refine Q3 Z Z Q6 (fun hg => Qm (j := 9) Z Z Z Z (by decide) Z Z Z Z Z Z) ?_;refine Q3 Z Z Q6 (fun hg => Q1 (Q8 hg) Z Z Z Z Z) <| Q3 Z Z Q6 (fun hg => Qt (Q8 hg) Z Z) <| Q3 Z Z Q6 (fun hg => Q7 (Q8 hg) Z) <| Qc Z Z Qh (fun hg => Q2 Z Z Z Z Z Z Z Z Z) <| Qc Z Z Qh (fun hg => Q1 (Q8 hg) Z Z Z Z Z) <| Qc Z Z Qh (fun hg => Q5 (c := (a0.f8 != 0)) (Q8 hg) Z Z Z Z) <| Q3 Z Z Q6 (fun hg => Qa (v := .bool ((a0.f8 != 0))) (w := .bool false) (Q8 hg) Z (Z5 hg) Z Qf Z Z Z) <| u0 (Qb (v := .bool true) (w := .bool ((bif !(v3.fe9) then (a0.f8 != 0) else false))) Z Z Q6 Z Qf Z Z Z) <| mv Z ?_;refine Q3 Z Z Q6 (fun hg => Qm (j := 10) Z Z Z Z (by decide) Z Z Z Z Z Z) ?_;refine Q3 Z Z Q6 (fun hg => Q1 (Q8 hg) Z Z Z Z Z) <| Q3 Z Z Q6 (fun hg => Qt (Q8 hg) Z Z) <| Q3 Z Z Q6 (fun hg => Q7 (Q8 hg) Z) <| Qc Z Z Qh (fun hg => Q2 Z Z Z Z Z Z Z Z Z) <| Qc Z Z Qh (fun hg => Q1 (Q8 hg) Z Z Z Z Z) <| Qc Z Z Qh (fun hg => Q5 (c := (a0.fi != 0)) (Q8 hg) Z Z Z Z) <| Q3 Z Z Q6 (fun hg => Qa (v := .bool ((a0.fi != 0))) (w := .bool false) (Q8 hg) Z (Z5 hg) Z Qf Z Z Z) <| u0 (Qb (v := .bool true) (w := .bool ((bif !(v3.fe10) then (a0.fi != 0) else false))) Z Z Q6 Z Qf Z Z Z) <| mv Z ?_
                      refine Q3 Z Z Q6 (fun hg => Qm (j := 11) Z Z Z Z (by decide) Z Z Z Z Z Z) ?_;refine Q3 Z Z Q6 (fun hg => Q1 (Q8 hg) Z Z Z Z Z) <| Q3 Z Z Q6 (fun hg => Qt (Q8 hg) Z Z) <| Q3 Z Z Q6 (fun hg => Q7 (Q8 hg) Z) <| Qc Z Z Qh (fun hg => Q2 Z Z Z Z Z Z Z Z Z) <| Qc Z Z Qh (fun hg => Qo (Q8 hg) Z Z Z Z Z Z) <| Qc Z Z Qh (fun hg => ZE Z Z Z Z Z Z Z) ?_;refine Qc Z Z Qh (fun hg => AB (us := [.int .i64 a0.ff.fc, .string a0.ff.fu, .int .i64 a0.ff.fi, .int .i64 a0.ff.fa4, .int .i64 a0.ff.f7]) (vs := [.int .i64 0, .string ByteArray.empty, .int .i64 0, .int .i64 0, .int .i64 0]) (c := (!((a0.ff.fc == 0) && ((a0.ff.fu.toList == ByteArray.empty.toList) && ((a0.ff.fi == 0) && ((a0.ff.fa4 == 0) && ((a0.ff.f7 == 0) && true))))))) (Q8 hg) (Q8 hg) (by kernel_rfl) Z Z Z Z Z Z) ?_;refine Q3 Z Z Q6 (fun hg => Qa (v := .bool ((!((a0.ff.fc == 0) && ((a0.ff.fu.toList == ByteArray.empty.toList) && ((a0.ff.fi == 0) && ((a0.ff.fa4 == 0) && ((a0.ff.f7 == 0) && true)))))))) (w := .bool false) (Q8 hg) Z (Z5 hg) Z Qf Z Z Z) <| u0 (Qb (v := .bool true) (w := .bool ((bif !(v3.fe11) then (!((a0.ff.fc == 0) && ((a0.ff.fu.toList == ByteArray.empty.toList) && ((a0.ff.fi == 0) && ((a0.ff.fa4 == 0) && ((a0.ff.f7 == 0) && true)))))) else false))) Z Z Q6 Z Qf Z Z Z) <| mv Z ?_
                      refine Q3 Z Z Q6 (fun hg => Qm (j := 12) Z Z Z Z (by decide) Z Z Z Z Z Z) ?_;refine Q3 Z Z Q6 (fun hg => Q1 (Q8 hg) Z Z Z Z Z) <| Q3 Z Z Q6 (fun hg => Qt (Q8 hg) Z Z) <| Q3 Z Z Q6 (fun hg => Q7 (Q8 hg) Z) <| Qc Z Z Qh (fun hg => Q2 Z Z Z Z Z Z Z Z Z) <| Qc Z Z Qh (fun hg => Q1 (Q8 hg) Z Z Z Z Z) <| Qc Z Z Qh (fun hg => Qi (Q8 hg) Z Z Z) <| Qc Z Z Qh (fun hg => Q5 (c := decide (((a0.fv.length : Int)) > 0)) (Q8 hg) Z Z Z Z) <| Q3 Z Z Q6 (fun hg => Qa (v := .bool (decide (((a0.fv.length : Int)) > 0))) (w := .bool false) (Q8 hg) Z (Z5 hg) Z Qf Z Z Z) <| u0 (Qb (v := .bool true) (w := .bool ((bif !(v3.fe12) then decide (((a0.fv.length : Int)) > 0) else false))) Z Z Q6 Z Qf Z Z Z) <| rt (hL _ ?_);refine QF (st' := ⟨[(269, .c (.p (.v (.bool ((bif (bif (bif (bif (bif (bif (bif (bif (bif (bif (bif (bif (bif !(v3.fe0) then (!(a0.fa7.toList == ((⟨#[]⟩ : ByteArray)).toList)) else false) then true else (bif !(v3.fe1) then (!(a0.fa2.toList == ((⟨#[]⟩ : ByteArray)).toList)) else false)) then true else (bif !(v3.fe2) then decide (((a0.fj.length : Int)) > 0) else false)) then true else (bif !(v3.fe3) then (!((a0.fg.fc == 0) && ((a0.fg.f3 == 0) && ((a0.fg.fy == 0) && ((a0.fg.fa3 == 0) && true))))) else false)) then true else (bif !(v3.fe4) then decide (((a0.fp.length : Int)) > 0) else false)) then true else (bif !(v3.fe5) then decide (((a0.f6.length : Int)) > 0) else false)) then true else (bif !(v3.fe6) then (bif (a0.fq != 0) then true else (a0.f5 != 0)) else false)) then true else (bif !(v3.fe7) then (a0.fo != 0) else false)) then true else (bif !(v3.fe8) then (a0.fa5 != 0) else false)) then true else (bif !(v3.fe9) then (a0.f8 != 0) else false)) then true else (bif !(v3.fe10) then (a0.fi != 0) else false)) then true else (bif !(v3.fe11) then (!((a0.ff.fc == 0) && ((a0.ff.fu.toList == ByteArray.empty.toList) && ((a0.ff.fi == 0) && ((a0.ff.fa4 == 0) && ((a0.ff.f7 == 0) && true)))))) else false)) then true else (bif !(v3.fe12) then decide (((a0.fv.length : Int)) > 0) else false)))))))], []⟩) (QG.nm [269] [] Z Z) ?_
                      refine QY Z h (fun h => ?_) fun h => ?_
                      · refine tk fun L hL => Qr Z Z <| rt (hL _ ?_);obtain rfl := h;exact Qe (hQ _ _ (QX Z Z))
                      · refine Qg (hL25 _ ?_);refine tk fun L hL => Qr Z Z <| rt (hL _ ?_);obtain rfl := h;exact Qe (hQ _ _ (QX Z Z))
                  · refine tk fun L hL => ?_;refine u0 (Qm (j := 11) Z Z Z Z (by decide) Z Z Z Z Z Z) ?_;refine u0 (Q1 Z Z Z Z Z Z) <| rt (hL _ ?_);refine QY Z h (fun h => ?_) fun h => ?_
                    · refine tk fun L hL => u0 (Q2 Z Z Z Z Z Z Z Z Z) <| u0 (Qo Z Z Z Z Z Z Z) ?_;obtain ⟨v23, hv23, h⟩ := h;refine u0 (Qd (VG _ _ hv23) Z Z (.cons (.agg (.pp (.pp (.pp (.pp (.pp .nil)))))) .nil) Z Z Z) <| Qr Z Z <| rt (hL _ ?_);refine tk fun L hL => mv Z <| u0 (Q5 (c := (v23 != 0)) Z Z Z Z Z) <| rt (hL _ ?_);refine QY Z h (fun h => ?_) fun h => ?_
                      · refine tk fun L hL => mv Z <| Qr Z Z <| rt (hL _ ?_);obtain rfl := h;exact Qe (hQ _ _ (QX Z Z))
                      · refine Qg (hL22 _ _ h (QG.nm [1, 3] [((1, 0), (1, 0)), ((3, 0), (3, 0))] Z (by kernel_rfl)))
                    · refine Qg (hL22 _ _ h (QG.nm [1, 3] [((1, 0), (1, 0)), ((3, 0), (3, 0))] Z (by kernel_rfl)))
        · refine tk fun L hL => ?_;refine u0 (Qm (j := 3) Z Z Z Z (by decide) Z Z Z Z Z Z) ?_;refine u0 (Q1 Z Z Z Z Z Z) <| rt (hL _ ?_);refine QY Z h (fun h => ?_) fun h => ?_
          · refine tk fun L hL => u0 (Q2 Z Z Z Z Z Z Z Z Z) <| u0 (Qo Z Z Z Z Z Z Z) ?_;obtain ⟨v10, hv10, h⟩ := h;refine u0 (Qd (Vt _ _ hv10) Z Z (.cons (.agg (.pp (.pp (.pp (.pp .nil))))) .nil) Z Z Z) <| Qr Z Z <| rt (hL _ ?_);refine tk fun L hL => mv Z <| u0 (Q5 (c := (v10 != 0)) Z Z Z Z Z) <| rt (hL _ ?_);refine QY Z h (fun h => ?_) fun h => ?_
            · refine tk fun L hL => mv Z <| Qr Z Z <| rt (hL _ ?_);obtain rfl := h;exact Qe (hQ _ _ (QX Z Z))
            · refine Qg (hL9 _ _ h (QG.nm [1, 3] [((1, 0), (1, 0)), ((3, 0), (3, 0))] Z (by kernel_rfl)))
          · refine Qg (hL9 _ _ h (QG.nm [1, 3] [((1, 0), (1, 0)), ((3, 0), (3, 0))] Z (by kernel_rfl)))
def Jt (a0 : (List Int)) (a1 : (List Int)) (Q : Bool → Prop) : Prop :=
 ((((((a0.length : Int)) != ((a1.length : Int)))) = true → Q false) ∧ (((((a0.length : Int)) != ((a1.length : Int)))) = false → jn (fun (p2 : Unit) => Q true) (fun (J2 : Unit → Prop) => lp (fun (X3 : Int → Prop) (s3 : Int) => (((decide (s3 < ((a0.length : Int)))) = true → ∃ v6, ix a0 s3 v6 ∧ ∃ v7, ix a1 s3 v7 ∧ ((((v6 != v7)) = true → Q false) ∧ (((v6 != v7)) = false → X3 ((IntKind.i64.wrap (s3 + 1)))))) ∧ ((decide (s3 < ((a0.length : Int)))) = false → J2 (())))) 0)))
def Kd (a0 : (List Int)) (a1 : (List Int)) (r : Bool) : Prop := Jt a0 a1 fun x => r = x
theorem YJ (a0 : (List Int)) (a1 : (List Int)) (r : Bool) (h : Kd a0 a1 r) : Qq Try.prog 52 [.c (.l 1 (List.map (eI .i64) a0)), .c (.l 1 (List.map (eI .i64) a1))] [.c (.p (.v (.bool r)))] [] := by
  refine Qp tb Try.func52 Z (by kernel_rfl) Z Z (Nat.le_of_ble_eq_true Z) Z ?_;intro E;unfold Kd Jt at h;refine Zx (fun Q hQ => ?_);refine tk fun L hL => Qr Z Z <| rt (hL _ ?_);refine sk fun L1 hL1 => tk fun L hL => mv Z <| u0 (Qi Z Z Z Z) <| mv Z <| u0 (Qi Z Z Z Z) <| u0 (Q5 (c := (((a0.length : Int)) != ((a1.length : Int)))) Z Z Z Z Z) <| rt (hL _ ?_);refine QY Z h (fun h => ?_) fun h => ?_
  · refine tk fun L hL => Qr Z Z <| rt (hL _ ?_);obtain rfl := h;exact Qe (hQ _ _ (QX Z Z))
  · refine Qg (hL1 _ ?_);refine Zo (fun (p2 : Unit) => (⟨[], []⟩ : St)) h (fun p2 h => ?_) (fun J2 L2 hL2 h => ?_)
    · refine tk fun L hL => Qr Z Z <| rt (hL _ ?_);obtain rfl := h;exact Qe (hQ _ _ (QX Z Z))
    · refine tk fun L hL => Qr Z Z <| rt (hL _ ?_);refine Ql ?_;refine ZK (fun (s3 : Int) => (⟨[(0, .c (.p (.l 1 (List.map (eI .i64) a0)))), (1, .c (.p (.l 1 (List.map (eI .i64) a1)))), (5, .c (.p (.v (.int .i64 s3))))], []⟩ : St)) h (QG.nm [0, 1, 5] [] Z (by kernel_rfl)) (fun X3 L3 hL3 s3 h => ?_);refine sk fun L4 hL4 => tk fun L hL => mv Z <| mv Z <| u0 (Qi Z Z Z Z) <| u0 (Q5 (c := decide (s3 < ((a0.length : Int)))) Z Z Z Z Z) <| rt (hL _ ?_);refine QY Z h (fun h => ?_) fun h => ?_
      · refine Qg (hL4 _ ?_);refine sk fun L5 hL5 => Ql <| dk mixed (fun L hL => ?_);refine mv Z <| mv Z ?_;obtain ⟨v6, hv6, h⟩ := h;refine u0 (Qk hv6 Z Z Z Z Z Z Z Z) <| u0 (Qn Z Z Z Z Z) <| mv Z <| mv Z ?_;obtain ⟨v7, hv7, h⟩ := h;refine u0 (Qk hv7 Z Z Z Z Z Z Z Z) <| u0 (Qn Z Z Z Z Z) <| u0 (Q5 (c := (v6 != v7)) Z Z Z Z Z) <| rd (hL _ ?_);refine QY Z h (fun h => ?_) fun h => ?_
        · refine tk fun L hL => Qr Z Z <| rt (hL _ ?_);obtain rfl := h;exact Qe (hQ _ _ (QX Z Z))
        · refine Qg (hL5 _ ?_);refine tl fun L hL => mv Z <| u0 (QO Z Z Z Z Z) <| Qr Z Z ?_;refine rt (hL _ (hL3 _ _ h (QG.nm [0, 1, 5] [] Z (by kernel_rfl))))
      · refine QM (hL2 _ _ h (QG.nm [] [] Z (by kernel_rfl)))
def KM (a0 : (List Qx)) (a1 : (List Qx)) (Q : Bool → Prop) : Prop :=
 ((((((a0.length : Int)) != ((a1.length : Int)))) = true → Q false) ∧ (((((a0.length : Int)) != ((a1.length : Int)))) = false → jn (fun (p2 : Unit) => Q true) (fun (J2 : Unit → Prop) => lp (fun (X3 : Int → Prop) (s3 : Int) => (((decide (s3 < ((a0.length : Int)))) = true → ∃ v6, ix a0 s3 v6 ∧ ∃ v7, ix a1 s3 v7 ∧ ((((!((v6.fu.toList == v7.fu.toList) && ((v6.fi == v7.fi) && ((v6.f0 == v7.f0) && true))))) = true → Q false) ∧ (((!((v6.fu.toList == v7.fu.toList) && ((v6.fi == v7.fi) && ((v6.f0 == v7.f0) && true))))) = false → X3 ((IntKind.i64.wrap (s3 + 1)))))) ∧ ((decide (s3 < ((a0.length : Int)))) = false → J2 (())))) 0)))
def ZG (a0 : (List Qx)) (a1 : (List Qx)) (r : Bool) : Prop := KM a0 a1 fun x => r = x
theorem Xu (a0 : (List Qx)) (a1 : (List Qx)) (r : Bool) (h : ZG a0 a1 r) : Qq Try.prog 53 [.c (.l 3 (List.map ZZ a0)), .c (.l 3 (List.map ZZ a1))] [.c (.p (.v (.bool r)))] [] := by
  refine Qp tb Try.func53 Z (by kernel_rfl) Z Z (Nat.le_of_ble_eq_true Z) Z ?_;intro E;unfold ZG KM at h;refine Zx (fun Q hQ => ?_);refine tk fun L hL => Qr Z Z <| rt (hL _ ?_);refine sk fun L1 hL1 => tk fun L hL => mv Z <| u0 (Qi Z Z Z Z) <| mv Z <| u0 (Qi Z Z Z Z) <| u0 (Q5 (c := (((a0.length : Int)) != ((a1.length : Int)))) Z Z Z Z Z) <| rt (hL _ ?_);refine QY Z h (fun h => ?_) fun h => ?_
  · refine tk fun L hL => Qr Z Z <| rt (hL _ ?_);obtain rfl := h;exact Qe (hQ _ _ (QX Z Z))
  · refine Qg (hL1 _ ?_);refine Zo (fun (p2 : Unit) => (⟨[], []⟩ : St)) h (fun p2 h => ?_) (fun J2 L2 hL2 h => ?_)
    · refine tk fun L hL => Qr Z Z <| rt (hL _ ?_);obtain rfl := h;exact Qe (hQ _ _ (QX Z Z))
    · refine tk fun L hL => Qr Z Z <| rt (hL _ ?_);refine Ql ?_;refine ZK (fun (s3 : Int) => (⟨[(0, .c (.p (.l 3 (List.map ZZ a0)))), (1, .c (.p (.l 3 (List.map ZZ a1)))), (5, .c (.p (.v (.int .i64 s3))))], []⟩ : St)) h (QG.nm [0, 1, 5] [] Z (by kernel_rfl)) (fun X3 L3 hL3 s3 h => ?_);refine sk fun L4 hL4 => tk fun L hL => mv Z <| mv Z <| u0 (Qi Z Z Z Z) <| u0 (Q5 (c := decide (s3 < ((a0.length : Int)))) Z Z Z Z Z) <| rt (hL _ ?_);refine QY Z h (fun h => ?_) fun h => ?_
      · refine Qg (hL4 _ ?_);refine sk fun L5 hL5 => Ql <| dk mixed (fun L hL => ?_);refine mv Z <| mv Z ?_;obtain ⟨v6, hv6, h⟩ := h;refine u0 (Qk hv6 Z Z Z Z Z Z Z Z) <| u0 (Qy Z Z Z Z Z Z Z) <| mv Z <| mv Z ?_;obtain ⟨v7, hv7, h⟩ := h;refine u0 (Qk hv7 Z Z Z Z Z Z Z Z) <| u0 (Qy Z Z Z Z Z Z Z) ?_;refine u0 (AB (us := [.string v6.fu, .int .i64 v6.fi, .int .i64 v6.f0]) (vs := [.string v7.fu, .int .i64 v7.fi, .int .i64 v7.f0]) (c := (!((v6.fu.toList == v7.fu.toList) && ((v6.fi == v7.fi) && ((v6.f0 == v7.f0) && true))))) Z Z (by kernel_rfl) Z Z Z Z Z Z) ?_;refine rd (hL _ ?_);refine QY Z h (fun h => ?_) fun h => ?_
        · refine tk fun L hL => Qr Z Z <| rt (hL _ ?_);obtain rfl := h;exact Qe (hQ _ _ (QX Z Z))
        · refine Qg (hL5 _ ?_);refine tl fun L hL => mv Z <| u0 (QO Z Z Z Z Z) <| Qr Z Z ?_;refine rt (hL _ (hL3 _ _ h (QG.nm [0, 1, 5] [] Z (by kernel_rfl))))
      · refine QM (hL2 _ _ h (QG.nm [] [] Z (by kernel_rfl)))
def KN (a0 : Qs) (a1 : Qs) (Q : Bool → Prop) : Prop :=
 ∃ (v1 : Bool), (((bif (bif (bif (a0.fa6 == a1.fa6) then (a0.f0 == a1.f0) else false) then (a0.fu.toList == a1.fu.toList) else false) then (a0.fw == a1.fw) else false)) = true → Kd a0.fa8 a1.fa8 v1) ∧ ∃ (v2 : Bool), (((bif (bif (bif (bif (a0.fa6 == a1.fa6) then (a0.f0 == a1.f0) else false) then (a0.fu.toList == a1.fu.toList) else false) then (a0.fw == a1.fw) else false) then v1 else false)) = true → ZG a0.fa9 a1.fa9 v2) ∧ Q (((bif (bif (bif (bif (bif (a0.fa6 == a1.fa6) then (a0.f0 == a1.f0) else false) then (a0.fu.toList == a1.fu.toList) else false) then (a0.fw == a1.fw) else false) then v1 else false) then v2 else false)))
def ZH (a0 : Qs) (a1 : Qs) (r : Bool) : Prop := KN a0 a1 fun x => r = x
theorem Xv (a0 : Qs) (a1 : Qs) (r : Bool) (h : ZH a0 a1 r) : Qq Try.prog 49 [.agg (Vo a0), .agg (Vo a1)] [.c (.p (.v (.bool r)))] [] := by
  refine Qp tb Try.func49 Z (by kernel_rfl) Z Z (Nat.le_of_ble_eq_true Z) Z ?_;intro E;unfold ZH KN at h;refine Zx (fun Q hQ => ?_);refine tk fun L hL => u1 (QL Z Z) <| u1 (QL Z Z) <| Qr Z Z <| rt (hL _ ?_);refine tk fun L hL => u0 (Q2 Z Z Z Z Z Z Z Z Z) <| u0 (Q1 Z Z Z Z Z Z) <| u0 (Q2 Z Z Z Z Z Z Z Z Z) <| u0 (Q1 Z Z Z Z Z Z) <| u0 (Q5 (c := (a0.fa6 == a1.fa6)) Z Z Z Z Z) <| mv Z <| Q3 Z Z Q9 (fun hg => Q2 Z Z Z Z Z Z Z Z Z) <| Q3 Z Z Q9 (fun hg => Q1 (Q8 hg) Z Z Z Z Z) <| Q3 Z Z Q9 (fun hg => Q2 Z Z Z Z Z Z Z Z Z) <| Q3 Z Z Q9 (fun hg => Q1 (Q8 hg) Z Z Z Z Z) <| Q3 Z Z Q9 (fun hg => Q5 (c := (a0.f0 == a1.f0)) (Q8 hg) (Q8 hg) Z Z Z) <| u0 (Qa (v := .bool ((a0.f0 == a1.f0))) (w := .bool false) Z Z Q9 Z Qf Z Z Z) <| mv Z <| Q3 Z Z Q9 (fun hg => Q2 Z Z Z Z Z Z Z Z Z) <| Q3 Z Z Q9 (fun hg => Q1 (Q8 hg) Z Z Z Z Z) <| Q3 Z Z Q9 (fun hg => Q2 Z Z Z Z Z Z Z Z Z) <| Q3 Z Z Q9 (fun hg => Q1 (Q8 hg) Z Z Z Z Z) <| Q3 Z Z Q9 (fun hg => JM (c := (a0.fu.toList == a1.fu.toList)) (Q8 hg) (Q8 hg) Z Z Z) <| u0 (Qa (v := .bool ((a0.fu.toList == a1.fu.toList))) (w := .bool false) Z Z Q9 Z Qf Z Z Z) <| mv Z <| Q3 Z Z Q9 (fun hg => Q2 Z Z Z Z Z Z Z Z Z) <| Q3 Z Z Q9 (fun hg => Q1 (Q8 hg) Z Z Z Z Z) <| Q3 Z Z Q9 (fun hg => Q2 Z Z Z Z Z Z Z Z Z) <| Q3 Z Z Q9 (fun hg => Q1 (Q8 hg) Z Z Z Z Z) <| Q3 Z Z Q9 (fun hg => BE (Q8 hg) (Q8 hg) Z Z Z Z) ?_
  refine u0 (Qa (v := .bool ((a0.fw == a1.fw))) (w := .bool false) Z Z Q9 Z Qf Z Z Z) <| mv Z <| Q3 Z Z Q9 (fun hg => Q2 Z Z Z Z Z Z Z Z Z) <| Q3 Z Z Q9 (fun hg => Q1 (Q8 hg) Z Z Z Z Z) <| Q3 Z Z Q9 (fun hg => Q2 Z Z Z Z Z Z Z Z Z) <| Q3 Z Z Q9 (fun hg => Q1 (Q8 hg) Z Z Z Z Z) ?_;obtain ⟨v1, hv1, h⟩ := h;refine Q3 Z Z Q9 (fun hg => Qd (YJ _ _ _ (hv1 hg)) Z Z (.cons (QS hg (.c (.p _))) (.cons (QS hg (.c (.p _))) .nil)) Z Z Z) <| u0 (Qa (v := .bool v1) (w := .bool false) Z Z Q9 Z Qf Z Z Z) <| mv Z <| Q3 Z Z Q9 (fun hg => Q2 Z Z Z Z Z Z Z Z Z) <| Q3 Z Z Q9 (fun hg => Q1 (Q8 hg) Z Z Z Z Z) <| Q3 Z Z Q9 (fun hg => Q2 Z Z Z Z Z Z Z Z Z) <| Q3 Z Z Q9 (fun hg => Q1 (Q8 hg) Z Z Z Z Z) ?_;obtain ⟨v2, hv2, h⟩ := h;refine Q3 Z Z Q9 (fun hg => Qd (Xu _ _ _ (hv2 hg)) Z Z (.cons (QS hg (.c (.p _))) (.cons (QS hg (.c (.p _))) .nil)) Z Z Z) <| u0 (Qa (v := .bool v2) (w := .bool false) Z Z Q9 Z Qf Z Z Z) <| Qr Z Z <| rt (hL _ ?_)
  refine QF (st' := ⟨[(4, .c (.p (.v (.bool ((bif (bif (bif (bif (bif (a0.fa6 == a1.fa6) then (a0.f0 == a1.f0) else false) then (a0.fu.toList == a1.fu.toList) else false) then (a0.fw == a1.fw) else false) then v1 else false) then v2 else false))))))], []⟩) (QG.nm [4] [] Z Z) ?_;obtain rfl := h;exact Qe (hQ _ _ (QX Z Z))
def Kq (a0 : Qj) (a1 : Qj) (Q : Bool → Prop) : Prop :=
 ∃ (v2 : Bool), ((!((bif (bif (bif (bif (a0.fa0 != a1.fa0) then true else (a0.f4 != a1.f4)) then true else (a0.fx != a1.fx)) then true else (a0.fo != a1.fo)) then true else (!((strOfNums a0.fv).toList == (strOfNums a1.fv).toList))))) = true → ZH a0.f9 a1.f9 v2) ∧ ((((bif (bif (bif (bif (bif (bif (a0.fa0 != a1.fa0) then true else (a0.f4 != a1.f4)) then true else (a0.fx != a1.fx)) then true else (a0.fo != a1.fo)) then true else (!((strOfNums a0.fv).toList == (strOfNums a1.fv).toList))) then true else !(v2)) then true else (((a0.fj.length : Int)) != ((a1.fj.length : Int))))) = true → Q false) ∧ (((bif (bif (bif (bif (bif (bif (a0.fa0 != a1.fa0) then true else (a0.f4 != a1.f4)) then true else (a0.fx != a1.fx)) then true else (a0.fo != a1.fo)) then true else (!((strOfNums a0.fv).toList == (strOfNums a1.fv).toList))) then true else !(v2)) then true else (((a0.fj.length : Int)) != ((a1.fj.length : Int))))) = false → jn (fun (p3 : Unit) => Q true) (fun (J3 : Unit → Prop) => lp (fun (X4 : Int → Prop) (s4 : Int) => (((decide (s4 < ((a0.fj.length : Int)))) = true → ∃ v7, ix a0.fj s4 v7 ∧ ∃ v8, ix a1.fj s4 v8 ∧ ((((!(v7.toList == v8.toList))) = true → Q false) ∧ (((!(v7.toList == v8.toList))) = false → X4 ((IntKind.i64.wrap (s4 + 1)))))) ∧ ((decide (s4 < ((a0.fj.length : Int)))) = false → J3 (())))) 0)))
def ZP (a0 : Qj) (a1 : Qj) (r : Bool) : Prop := Kq a0 a1 fun x => r = x
theorem VT (a0 : Qj) (a1 : Qj) (r : Bool) (h : ZP a0 a1 r) : Qq Try.prog 39 [.agg (Zq a0), .agg (Zq a1)] [.c (.p (.v (.bool r)))] [] := by
  refine Qp tb Try.func39 Z (by kernel_rfl) Z Z (Nat.le_of_ble_eq_true Z) Z ?_;intro E;unfold ZP Kq at h;refine Zx (fun Q hQ => ?_);refine tk fun L hL => u1 (QL Z Z) <| u1 (QL Z Z) <| Qr Z Z <| rt (hL _ ?_);refine sk fun L1 hL1 => tk fun L hL => u0 (Q2 Z Z Z Z Z Z Z Z Z) <| u0 (Q1 Z Z Z Z Z Z) <| u0 (Q2 Z Z Z Z Z Z Z Z Z) <| u0 (Q1 Z Z Z Z Z Z) <| u0 (Q5 (c := (a0.fa0 != a1.fa0)) Z Z Z Z Z) <| mv Z <| Q3 Z Z Q6 (fun hg => Q2 Z Z Z Z Z Z Z Z Z) <| Q3 Z Z Q6 (fun hg => Q1 (Q8 hg) Z Z Z Z Z) <| Q3 Z Z Q6 (fun hg => Q2 Z Z Z Z Z Z Z Z Z) <| Q3 Z Z Q6 (fun hg => Q1 (Q8 hg) Z Z Z Z Z) <| Q3 Z Z Q6 (fun hg => Q5 (c := (a0.f4 != a1.f4)) (Q8 hg) (Q8 hg) Z Z Z) <| u0 (Qb (v := .bool true) (w := .bool ((a0.f4 != a1.f4))) Z Z Q6 Z Qf Z Z Z) <| mv Z <| Q3 Z Z Q6 (fun hg => Q2 Z Z Z Z Z Z Z Z Z) <| Q3 Z Z Q6 (fun hg => Q1 (Q8 hg) Z Z Z Z Z) <| Q3 Z Z Q6 (fun hg => Q2 Z Z Z Z Z Z Z Z Z) <| Q3 Z Z Q6 (fun hg => Q1 (Q8 hg) Z Z Z Z Z) <| Q3 Z Z Q6 (fun hg => Q5 (c := (a0.fx != a1.fx)) (Q8 hg) (Q8 hg) Z Z Z) <| u0 (Qb (v := .bool true) (w := .bool ((a0.fx != a1.fx))) Z Z Q6 Z Qf Z Z Z) <| mv Z <| Q3 Z Z Q6 (fun hg => Q2 Z Z Z Z Z Z Z Z Z) <| Q3 Z Z Q6 (fun hg => Q1 (Q8 hg) Z Z Z Z Z) <| Q3 Z Z Q6 (fun hg => Q2 Z Z Z Z Z Z Z Z Z) <| Q3 Z Z Q6 (fun hg => Q1 (Q8 hg) Z Z Z Z Z) <| Q3 Z Z Q6 (fun hg => Q5 (c := (a0.fo != a1.fo)) (Q8 hg) (Q8 hg) Z Z Z) ?_
  refine u0 (Qb (v := .bool true) (w := .bool ((a0.fo != a1.fo))) Z Z Q6 Z Qf Z Z Z) <| mv Z <| Q3 Z Z Q6 (fun hg => Q2 Z Z Z Z Z Z Z Z Z) <| Q3 Z Z Q6 (fun hg => Q1 (Q8 hg) Z Z Z Z Z) <| Q3 Z Z Q6 (fun hg => Xe (Q8 hg) Z Z Z Z Z Z Z) <| Q3 Z Z Q6 (fun hg => Q2 Z Z Z Z Z Z Z Z Z) <| Q3 Z Z Q6 (fun hg => Q1 (Q8 hg) Z Z Z Z Z) <| Q3 Z Z Q6 (fun hg => Xe (Q8 hg) Z Z Z Z Z Z Z) <| Q3 Z Z Q6 (fun hg => JM (c := (!((strOfNums a0.fv).toList == (strOfNums a1.fv).toList))) (Q8 hg) (Q8 hg) Z Z Z) <| u0 (Qb (v := .bool true) (w := .bool ((!((strOfNums a0.fv).toList == (strOfNums a1.fv).toList)))) Z Z Q6 Z Qf Z Z Z) <| mv Z <| Q3 Z Z Q6 (fun hg => Q2 Z Z Z Z Z Z Z Z Z) <| Q3 Z Z Q6 (fun hg => Qo (Q8 hg) Z Z Z Z Z Z) <| Q3 Z Z Q6 (fun hg => Q2 Z Z Z Z Z Z Z Z Z) <| Q3 Z Z Q6 (fun hg => Qo (Q8 hg) Z Z Z Z Z Z) ?_;obtain ⟨v2, hv2, h⟩ := h;refine Q3 Z Z Q6 (fun hg => Qd (Xv _ _ _ (hv2 hg)) Z Z (.cons (QS hg (.agg (.pp (.pp (.pp (.pp (.pp (.pp .nil)))))))) (.cons (QS hg (.agg (.pp (.pp (.pp (.pp (.pp (.pp .nil)))))))) .nil)) Z Z Z) <| Q3 Z Z Q6 (fun hg => Qt (Q8 hg) Z Z) <| u0 (Qb (v := .bool true) (w := .bool (!(v2))) Z Z Q6 Z Qf Z Z Z) <| mv Z <| Q3 Z Z Q6 (fun hg => Q2 Z Z Z Z Z Z Z Z Z) <| Q3 Z Z Q6 (fun hg => Q1 (Q8 hg) Z Z Z Z Z) <| Q3 Z Z Q6 (fun hg => Qi (Q8 hg) Z Z Z) <| Q3 Z Z Q6 (fun hg => Q2 Z Z Z Z Z Z Z Z Z) <| Q3 Z Z Q6 (fun hg => Q1 (Q8 hg) Z Z Z Z Z) <| Q3 Z Z Q6 (fun hg => Qi (Q8 hg) Z Z Z) <| Q3 Z Z Q6 (fun hg => Q5 (c := (((a0.fj.length : Int)) != ((a1.fj.length : Int)))) (Q8 hg) (Q8 hg) Z Z Z) <| u0 (Qb (v := .bool true) (w := .bool ((((a0.fj.length : Int)) != ((a1.fj.length : Int))))) Z Z Q6 Z Qf Z Z Z) <| rt (hL _ ?_)
  refine QF (st' := ⟨[(2, .c (.ptr (2, 0) 0 0)), (3, .c (.ptr (3, 0) 0 0)), (57, .c (.p (.v (.bool ((bif (bif (bif (bif (bif (bif (a0.fa0 != a1.fa0) then true else (a0.f4 != a1.f4)) then true else (a0.fx != a1.fx)) then true else (a0.fo != a1.fo)) then true else (!((strOfNums a0.fv).toList == (strOfNums a1.fv).toList))) then true else !(v2)) then true else (((a0.fj.length : Int)) != ((a1.fj.length : Int)))))))))], [((2, 0), some (.box (List.map CV.p (Zq a0)))), ((3, 0), some (.box (List.map CV.p (Zq a1))))]⟩) (QG.nm [2, 3, 57] [((2, 0), (2, 0)), ((3, 0), (3, 0))] Z Z) ?_;refine QY Z h (fun h => ?_) fun h => ?_
  · refine tk fun L hL => Qr Z Z <| rt (hL _ ?_);obtain rfl := h;exact Qe (hQ _ _ (QX Z Z))
  · refine Qg (hL1 _ ?_);refine Zo (fun (p3 : Unit) => (⟨[], []⟩ : St)) h (fun p3 h => ?_) (fun J3 L3 hL3 h => ?_)
    · refine tk fun L hL => Qr Z Z <| rt (hL _ ?_);obtain rfl := h;exact Qe (hQ _ _ (QX Z Z))
    · refine tk fun L hL => Qr Z Z <| rt (hL _ ?_);refine Ql ?_;refine ZK (fun (s4 : Int) => (⟨[(2, .c (.ptr (2, 0) 0 0)), (3, .c (.ptr (3, 0) 0 0)), (5, .c (.p (.v (.int .i64 s4))))], [((2, 0), some (.box (List.map CV.p (Zq a0)))), ((3, 0), some (.box (List.map CV.p (Zq a1))))]⟩ : St)) h (QG.nm [2, 3, 5] [((2, 0), (2, 0)), ((3, 0), (3, 0))] Z (by kernel_rfl)) (fun X4 L4 hL4 s4 h => ?_);refine sk fun L5 hL5 => tk fun L hL => mv Z <| u0 (Q2 Z Z Z Z Z Z Z Z Z) <| u0 (Q1 Z Z Z Z Z Z) <| u0 (Qi Z Z Z Z) <| u0 (Q5 (c := decide (s4 < ((a0.fj.length : Int)))) Z Z Z Z Z) <| rt (hL _ ?_);refine QY Z h (fun h => ?_) fun h => ?_
      · refine Qg (hL5 _ ?_);refine sk fun L6 hL6 => Ql <| dk mixed (fun L hL => ?_);refine u0 (Q2 Z Z Z Z Z Z Z Z Z) <| u0 (Q1 Z Z Z Z Z Z) <| mv Z ?_;obtain ⟨v7, hv7, h⟩ := h;refine u0 (Qk hv7 Z Z Z Z Z Z Z Z) <| u0 (Qn Z Z Z Z Z) <| u0 (Q2 Z Z Z Z Z Z Z Z Z) <| u0 (Q1 Z Z Z Z Z Z) <| mv Z ?_;obtain ⟨v8, hv8, h⟩ := h;refine u0 (Qk hv8 Z Z Z Z Z Z Z Z) <| u0 (Qn Z Z Z Z Z) <| u0 (JM (c := (!(v7.toList == v8.toList))) Z Z Z Z Z) <| rd (hL _ ?_);refine QY Z h (fun h => ?_) fun h => ?_
        · refine tk fun L hL => Qr Z Z <| rt (hL _ ?_);obtain rfl := h;exact Qe (hQ _ _ (QX Z Z))
        · refine Qg (hL6 _ ?_);refine tl fun L hL => mv Z <| u0 (QO Z Z Z Z Z) <| Qr Z Z ?_;refine rt (hL _ (hL4 _ _ h (QG.nm [2, 3, 5] [((2, 0), (2, 0)), ((3, 0), (3, 0))] Z (by kernel_rfl))))
      · refine QM (hL3 _ _ h (QG.nm [] [] Z (by kernel_rfl)))
def Vu (a0 : Qj) (Q : Bool → Prop) : Prop :=
 ∃ v1, ZP a0 (Qj.mk 0 0 0 0 ([] : (List ByteArray)) (Qs.mk 0 0 ByteArray.empty ([] : (List Int)) ([] : (List Qx)) false) ([] : (List Int))) v1 ∧ Q v1
def J6 (a0 : Qj) (r : Bool) : Prop := Vu a0 fun x => r = x
theorem Um (a0 : Qj) (r : Bool) (h : J6 a0 r) : Qq Try.prog 24 [.agg (Zq a0)] [.c (.p (.v (.bool r)))] [] := by
  refine Qp tb Try.func24 Z (by kernel_rfl) Z Z (Nat.le_of_ble_eq_true Z) Z ?_;intro E;unfold J6 Vu at h;refine Zx (fun Q hQ => ?_);refine tk fun L hL => u1 (QL Z Z) <| Qr Z Z <| rt (hL _ ?_);refine tk fun L hL => u0 (Qo Z Z Z Z Z Z Z) <| u0 (ZE Z Z Z Z Z Z Z) ?_;obtain ⟨v1, hv1, h⟩ := h;refine u0 (Qd (VT _ _ _ hv1) Z Z (.cons (.agg (.pp (.pp (.pp (.pp (.pp (.pp (.pp (.pp (.pp (.pp (.pp (.pp .nil))))))))))))) (.cons (.agg (.pp (.pp (.pp (.pp (.cons (.nil _) (.pp (.pp (.pp (.cons (.nil _) (.cons (.nil _) (.pp (.cons (.nil _) .nil))))))))))))) .nil)) Z Z Z) <| Qr Z Z <| rt (hL _ ?_);obtain rfl := h;exact Qe (hQ _ _ (QX Z Z))
def JG (a0 : (List Q4)) (a1 : Int) (Q : Int → Prop) : Prop :=
 ∃ v1, ix a0 a1 v1 ∧ ((((bif (bif (bif (bif decide (v1.fm < 0) then true else decide (v1.fm ≥ 64)) then true else decide (v1.fk < 0)) then true else decide (v1.fb < (-1))) then true else decide (v1.fa < (-1)))) = true → Q 5) ∧ (((bif (bif (bif (bif decide (v1.fm < 0) then true else decide (v1.fm ≥ 64)) then true else decide (v1.fk < 0)) then true else decide (v1.fb < (-1))) then true else decide (v1.fa < (-1)))) = false → ∃ v4, ZW v1.fOp v4 ∧ ((((v4 != 0)) = true → Q v4) ∧ (((v4 != 0)) = false → ∃ (v6 : Q4), ((decide (a1 > 0)) = true → ix a0 (IntKind.i64.wrap (a1 - 1)) v6) ∧ ((((bif (bif (bif decide (a1 > 0) then decide (v1.fk ≤ v6.fk) else false) then true else (bif (v1.fb != (-1)) then (bif decide (v1.fb ≤ v1.fk) then true else (bif (v1.fa != (-1)) then decide (v1.fb > v1.fa) else false)) else false)) then true else (bif (v1.fa != (-1)) then decide (v1.fa ≤ v1.fk) else false))) = true → Q 19) ∧ (((bif (bif (bif decide (a1 > 0) then decide (v1.fk ≤ v6.fk) else false) then true else (bif (v1.fb != (-1)) then (bif decide (v1.fb ≤ v1.fk) then true else (bif (v1.fa != (-1)) then decide (v1.fb > v1.fa) else false)) else false)) then true else (bif (v1.fa != (-1)) then decide (v1.fa ≤ v1.fk) else false))) = false → jn (fun (p7 : Unit) => ∃ (v15 : Bool), (((!((bif (bif (bif (v1.fa != (-1)) then (v1.fb == (-1)) else false) then !((v1.fh.fa0 == 16)) else false) then true else (bif (v1.fb != (-1)) then (v1.fh.fa0 == 16) else false))) && (v1.fa == (-1)))) = true → J6 v1.fh v15) ∧ ((((bif (bif (bif (bif (v1.fa != (-1)) then (v1.fb == (-1)) else false) then !((v1.fh.fa0 == 16)) else false) then true else (bif (v1.fb != (-1)) then (v1.fh.fa0 == 16) else false)) then true else (bif (v1.fa == (-1)) then !(v15) else false))) = true → Q 17) ∧ (((bif (bif (bif (bif (v1.fa != (-1)) then (v1.fb == (-1)) else false) then !((v1.fh.fa0 == 16)) else false) then true else (bif (v1.fb != (-1)) then (v1.fh.fa0 == 16) else false)) then true else (bif (v1.fa == (-1)) then !(v15) else false))) = false → jn (fun (p16 : Unit) => Q 0) (fun (J16 : Unit → Prop) => lp (fun (X17 : Int → Prop) (s17 : Int) => (((decide (s17 < a1)) = true → ∃ (v20 : Q4), (((v1.fb != (-1))) = true → ix a0 s17 v20) ∧ ∃ (v21 : Q4), (((!((bif (v1.fb != (-1)) then (v20.fb == v1.fb) else false)) && (v1.fa != (-1)))) = true → ix a0 s17 v21) ∧ ((((bif (bif (v1.fb != (-1)) then (v20.fb == v1.fb) else false) then true else (bif (v1.fa != (-1)) then (v21.fa == v1.fa) else false))) = true → Q 9) ∧ (((bif (bif (v1.fb != (-1)) then (v20.fb == v1.fb) else false) then true else (bif (v1.fa != (-1)) then (v21.fa == v1.fa) else false))) = false → X17 ((IntKind.i64.wrap (s17 + 1)))))) ∧ ((decide (s17 < a1)) = false → J16 (())))) 0)))) (fun (J7 : Unit → Prop) => lp (fun (X8 : Int → Prop) (s8 : Int) => (((decide (s8 < a1)) = true → ∃ v11, ix a0 s8 v11 ∧ ∃ (v12 : Q4), (((v11.fm == v1.fm)) = true → ix a0 s8 v12) ∧ ∃ (v13 : Q4), ((((v11.fm == v1.fm) && !((v12.fa == (-1))))) = true → ix a0 s8 v13) ∧ ((((bif (v11.fm == v1.fm) then (bif (v12.fa == (-1)) then true else decide (v13.fa ≥ v1.fk)) else false)) = true → Q 12) ∧ (((bif (v11.fm == v1.fm) then (bif (v12.fa == (-1)) then true else decide (v13.fa ≥ v1.fk)) else false)) = false → X8 ((IntKind.i64.wrap (s8 + 1)))))) ∧ ((decide (s8 < a1)) = false → J7 (())))) 0)))))))
def Kr (a0 : (List Q4)) (a1 : Int) (r : Int) : Prop := JG a0 a1 fun x => r = x
theorem Wk (a0 : (List Q4)) (a1 : Int) (r : Int) (h : Kr a0 a1 r) : Qq Try.prog 18 [.c (.l 38 (List.map e_api_Record a0)), .c (.v (.int .i64 a1))] [.c (.p (.v (.int .i64 r)))] [] := by
  refine Qp tb Try.func18 Z (by kernel_rfl) Z Z (Nat.le_of_ble_eq_true Z) Z ?_;intro E;unfold Kr JG at h;refine Zx (fun Q hQ => ?_);refine tk fun L hL => Qr Z Z <| rt (hL _ ?_);refine tk fun L hL => mv Z <| mv Z ?_;obtain ⟨v1, hv1, h⟩ := h;refine u0 (Qk hv1 Z Z Z Z Z Z Z Z) <| u0 (Qy Z Z Z Z Z Z Z) <| u1 (Z8 Z Z Z) <| un (Zr Z Z Z Z Z Z Z Z Z) <| rt (hL _ ?_);refine sk fun L2 hL2 => tk fun L hL => u0 (Q2 Z Z Z Z Z Z Z Z Z) <| u0 (Q1 Z Z Z Z Z Z) <| u0 (Q5 (c := decide (v1.fm < 0)) Z Z Z Z Z) <| mv Z <| Q3 Z Z Q6 (fun hg => Q2 Z Z Z Z Z Z Z Z Z) <| Q3 Z Z Q6 (fun hg => Q1 (Q8 hg) Z Z Z Z Z) <| Q3 Z Z Q6 (fun hg => Q5 (c := decide (v1.fm ≥ 64)) (Q8 hg) Z Z Z Z) <| u0 (Qb (v := .bool true) (w := .bool (decide (v1.fm ≥ 64))) Z Z Q6 Z Qf Z Z Z) <| mv Z <| Q3 Z Z Q6 (fun hg => Q2 Z Z Z Z Z Z Z Z Z) <| Q3 Z Z Q6 (fun hg => Q1 (Q8 hg) Z Z Z Z Z) <| Q3 Z Z Q6 (fun hg => Q5 (c := decide (v1.fk < 0)) (Q8 hg) Z Z Z Z) <| u0 (Qb (v := .bool true) (w := .bool (decide (v1.fk < 0))) Z Z Q6 Z Qf Z Z Z) <| mv Z <| Q3 Z Z Q6 (fun hg => Q2 Z Z Z Z Z Z Z Z Z) <| Q3 Z Z Q6 (fun hg => Q1 (Q8 hg) Z Z Z Z Z) <| Q3 Z Z Q6 (fun hg => Q5 (c := decide (v1.fb < (-1))) (Q8 hg) Z Z Z Z) <| u0 (Qb (v := .bool true) (w := .bool (decide (v1.fb < (-1)))) Z Z Q6 Z Qf Z Z Z) <| mv Z <| Q3 Z Z Q6 (fun hg => Q2 Z Z Z Z Z Z Z Z Z) <| Q3 Z Z Q6 (fun hg => Q1 (Q8 hg) Z Z Z Z Z) <| Q3 Z Z Q6 (fun hg => Q5 (c := decide (v1.fa < (-1))) (Q8 hg) Z Z Z Z) <| u0 (Qb (v := .bool true) (w := .bool (decide (v1.fa < (-1)))) Z Z Q6 Z Qf Z Z Z) <| rt (hL _ ?_)
  refine QY Z h (fun h => ?_) fun h => ?_
  · refine tk fun L hL => Qr Z Z <| rt (hL _ ?_);obtain rfl := h;exact Qe (hQ _ _ (QX Z Z))
  · refine Qg (hL2 _ ?_);refine QF (st' := ⟨[(0, .c (.p (.l 38 (List.map e_api_Record a0)))), (1, .c (.p (.v (.int .i64 a1)))), (5, .c (.ptr (5, 0) 0 0))], [((5, 0), some (.box (List.map CV.p (e_api_Record v1))))]⟩) (QG.nm [0, 1, 5] [((5, 0), (5, 0))] Z Z) ?_;refine sk fun L3 hL3 => tk fun L hL => u0 (Q2 Z Z Z Z Z Z Z Z Z) <| u0 (Qo Z Z Z Z Z Z Z) ?_;obtain ⟨v4, hv4, h⟩ := h;refine u0 (Qd (Yh _ _ hv4) Z Z (.cons (.agg (.pp (.pp (.pp (.pp (.pp (.pp (.pp (.pp (.pp (.pp (.pp (.pp (.pp (.pp (.pp (.pp (.pp (.pp (.pp (.pp (.pp (.pp .nil))))))))))))))))))))))) .nil) Z Z Z) <| Qr Z Z <| rt (hL _ ?_);refine tk fun L hL => mv Z <| u0 (Q5 (c := (v4 != 0)) Z Z Z Z Z) <| rt (hL _ ?_);refine QY Z h (fun h => ?_) fun h => ?_
    · refine tk fun L hL => mv Z <| Qr Z Z <| rt (hL _ ?_);obtain rfl := h;exact Qe (hQ _ _ (QX Z Z))
    · refine Qg (hL3 _ ?_);refine sk fun L5 hL5 => dk mixed (fun L hL => ?_);refine mv Z <| u0 (Q5 (c := decide (a1 > 0)) Z Z Z Z Z) <| mv Z <| Q3 Z Z Q9 (fun hg => Q2 Z Z Z Z Z Z Z Z Z) <| Q3 Z Z Q9 (fun hg => Q1 (Q8 hg) Z Z Z Z Z) <| Q3 Z Z Q9 (fun hg => Q7 Z Z) <| Q3 Z Z Q9 (fun hg => Q7 Z Z) <| Q3 Z Z Q9 (fun hg => KG (Q8 hg) Z Z Z Z) ?_;obtain ⟨v6, hv6, h⟩ := h;refine Q3 Z Z Q9 (fun hg => Qk (hv6 hg) (Q8 hg) (Q8 hg) Z Z Z Z Z Z) <| Q3 Z Z Q9 (fun hg => QK (Q8 hg) Z Z Z Z Z Z Z) <| Q3 Z Z Q9 (fun hg => Qn (Q8 hg) Z Z Z Z) <| Q3 Z Z Q9 (fun hg => Q5 (c := decide (v1.fk ≤ v6.fk)) (Q8 hg) (Q8 hg) Z Z Z) <| u0 (Qa (v := .bool (decide (v1.fk ≤ v6.fk))) (w := .bool false) Z Z Q9 Z Qf Z Z Z) <| mv Z <| Q3 Z Z Q6 (fun hg => Q2 Z Z Z Z Z Z Z Z Z) <| Q3 Z Z Q6 (fun hg => Q1 (Q8 hg) Z Z Z Z Z) <| Q3 Z Z Q6 (fun hg => Q5 (c := (v1.fb != (-1))) (Q8 hg) Z Z Z Z) <| Q3 Z Z Q6 (fun hg => Q7 (Q8 hg) Z) <| Qc Z Z Qh (fun hg => Q2 Z Z Z Z Z Z Z Z Z) <| Qc Z Z Qh (fun hg => Q1 (Q8 hg) Z Z Z Z Z) <| Qc Z Z Qh (fun hg => Q2 Z Z Z Z Z Z Z Z Z) <| Qc Z Z Qh (fun hg => Q1 (Q8 hg) Z Z Z Z Z) <| Qc Z Z Qh (fun hg => Q5 (c := decide (v1.fb ≤ v1.fk)) (Q8 hg) (Q8 hg) Z Z Z) <| Qc Z Z Qh (fun hg => Q7 (Q8 hg) Z) <| Qc Z Z QC (fun hg => Q2 Z Z Z Z Z Z Z Z Z) <| Qc Z Z QC (fun hg => Q1 (Q8 hg) Z Z Z Z Z) <| Qc Z Z QC (fun hg => Q5 (c := (v1.fa != (-1))) (Q8 hg) Z Z Z Z) <| Qc Z Z QC (fun hg => Q7 (Q8 hg) Z) <| Qc Z Z Qh (fun hg => Q2 Z Z Z Z Z Z Z Z Z) <| Qc Z Z Qh (fun hg => Q1 (Q8 hg) Z Z Z Z Z) ?_
      refine Qc Z Z Qh (fun hg => Q2 Z Z Z Z Z Z Z Z Z) <| Qc Z Z Qh (fun hg => Q1 (Q8 hg) Z Z Z Z Z) <| Qc Z Z Qh (fun hg => Q5 (c := decide (v1.fb > v1.fa)) (Q8 hg) (Q8 hg) Z Z Z) <| Qc Z Z QC (fun hg => Qa (v := .bool (decide (v1.fb > v1.fa))) (w := .bool false) (Q8 hg) Z (Z5 hg) Z Qf Z Z Z) <| Qc Z Z Qh (fun hg => Qb (v := .bool true) (w := .bool ((bif (v1.fa != (-1)) then decide (v1.fb > v1.fa) else false))) (Q8 hg) Z (Jg hg) Z Qf Z Z Z) <| Q3 Z Z Q6 (fun hg => Qa (v := .bool ((bif decide (v1.fb ≤ v1.fk) then true else (bif (v1.fa != (-1)) then decide (v1.fb > v1.fa) else false)))) (w := .bool false) (Q8 hg) Z (Z5 hg) Z Qf Z Z Z) <| u0 (Qb (v := .bool true) (w := .bool ((bif (v1.fb != (-1)) then (bif decide (v1.fb ≤ v1.fk) then true else (bif (v1.fa != (-1)) then decide (v1.fb > v1.fa) else false)) else false))) Z Z Q6 Z Qf Z Z Z) <| mv Z <| Q3 Z Z Q6 (fun hg => Q2 Z Z Z Z Z Z Z Z Z) <| Q3 Z Z Q6 (fun hg => Q1 (Q8 hg) Z Z Z Z Z) <| Q3 Z Z Q6 (fun hg => Q5 (c := (v1.fa != (-1))) (Q8 hg) Z Z Z Z) <| Q3 Z Z Q6 (fun hg => Q7 (Q8 hg) Z) <| Qc Z Z Qh (fun hg => Q2 Z Z Z Z Z Z Z Z Z) <| Qc Z Z Qh (fun hg => Q1 (Q8 hg) Z Z Z Z Z) <| Qc Z Z Qh (fun hg => Q2 Z Z Z Z Z Z Z Z Z) ?_
      refine Qc Z Z Qh (fun hg => Q1 (Q8 hg) Z Z Z Z Z) <| Qc Z Z Qh (fun hg => Q5 (c := decide (v1.fa ≤ v1.fk)) (Q8 hg) (Q8 hg) Z Z Z) <| Q3 Z Z Q6 (fun hg => Qa (v := .bool (decide (v1.fa ≤ v1.fk))) (w := .bool false) (Q8 hg) Z (Z5 hg) Z Qf Z Z Z) <| u0 (Qb (v := .bool true) (w := .bool ((bif (v1.fa != (-1)) then decide (v1.fa ≤ v1.fk) else false))) Z Z Q6 Z Qf Z Z Z) <| rd (hL _ ?_);refine QF (st' := ⟨[(0, .c (.p (.l 38 (List.map e_api_Record a0)))), (1, .c (.p (.v (.int .i64 a1)))), (5, .c (.ptr (5, 0) 0 0)), (91, .c (.p (.v (.bool ((bif (bif (bif decide (a1 > 0) then decide (v1.fk ≤ v6.fk) else false) then true else (bif (v1.fb != (-1)) then (bif decide (v1.fb ≤ v1.fk) then true else (bif (v1.fa != (-1)) then decide (v1.fb > v1.fa) else false)) else false)) then true else (bif (v1.fa != (-1)) then decide (v1.fa ≤ v1.fk) else false)))))))], [((5, 0), some (.box (List.map CV.p (e_api_Record v1))))]⟩) (QG.nm [0, 1, 5, 91] [((5, 0), (5, 0))] Z Z) ?_;refine QY Z h (fun h => ?_) fun h => ?_
      · refine tk fun L hL => Qr Z Z <| rt (hL _ ?_);obtain rfl := h;exact Qe (hQ _ _ (QX Z Z))
      · refine Qg (hL5 _ ?_);refine Zo (fun (p7 : Unit) => (⟨[(0, .c (.p (.l 38 (List.map e_api_Record a0)))), (1, .c (.p (.v (.int .i64 a1)))), (5, .c (.ptr (5, 0) 0 0))], [((5, 0), some (.box (List.map CV.p (e_api_Record v1))))]⟩ : St)) h (fun p7 h => ?_) (fun J7 L7 hL7 h => ?_)
        · refine tk fun L hL => u0 (Q2 Z Z Z Z Z Z Z Z Z) <| u0 (Q2 Z Z Z Z Z Z Z Z Z) <| u0 (Q1 Z Z Z Z Z Z) <| u0 (Q5 (c := (v1.fh.fa0 == 16)) Z Z Z Z Z) <| Qr Z Z <| rt (hL _ ?_);refine sk fun L14 hL14 => tk fun L hL => u0 (Q2 Z Z Z Z Z Z Z Z Z) <| u0 (Q1 Z Z Z Z Z Z) <| u0 (Q5 (c := (v1.fa != (-1))) Z Z Z Z Z) <| mv Z <| Q3 Z Z Q9 (fun hg => Q2 Z Z Z Z Z Z Z Z Z) <| Q3 Z Z Q9 (fun hg => Q1 (Q8 hg) Z Z Z Z Z) <| Q3 Z Z Q9 (fun hg => Q5 (c := (v1.fb == (-1))) (Q8 hg) Z Z Z Z) <| u0 (Qa (v := .bool ((v1.fb == (-1)))) (w := .bool false) Z Z Q9 Z Qf Z Z Z) <| mv Z <| Q3 Z Z Q9 (fun hg => Q7 Z Z) <| Q3 Z Z Q9 (fun hg => Qt (Q8 hg) Z Z) <| u0 (Qa (v := .bool (!((v1.fh.fa0 == 16)))) (w := .bool false) Z Z Q9 Z Qf Z Z Z) <| mv Z <| Q3 Z Z Q6 (fun hg => Q2 Z Z Z Z Z Z Z Z Z) <| Q3 Z Z Q6 (fun hg => Q1 (Q8 hg) Z Z Z Z Z) <| Q3 Z Z Q6 (fun hg => Q5 (c := (v1.fb != (-1))) (Q8 hg) Z Z Z Z) <| Q3 Z Z Q6 (fun hg => Q7 (Q8 hg) Z) <| Qc Z Z Qh (fun hg => Q7 Z Z) <| Q3 Z Z Q6 (fun hg => Qa (v := .bool ((v1.fh.fa0 == 16))) (w := .bool false) (Q8 hg) Z (Z5 hg) Z Qf Z Z Z) <| u0 (Qb (v := .bool true) (w := .bool ((bif (v1.fb != (-1)) then (v1.fh.fa0 == 16) else false))) Z Z Q6 Z Qf Z Z Z) <| mv Z <| Q3 Z Z Q6 (fun hg => Q2 Z Z Z Z Z Z Z Z Z) <| Q3 Z Z Q6 (fun hg => Q1 (Q8 hg) Z Z Z Z Z) <| Q3 Z Z Q6 (fun hg => Q5 (c := (v1.fa == (-1))) (Q8 hg) Z Z Z Z) ?_
          refine Q3 Z Z Q6 (fun hg => Q7 (Q8 hg) Z) <| Qc Z Z Qh (fun hg => Q2 Z Z Z Z Z Z Z Z Z) <| Qc Z Z Qh (fun hg => Qo (Q8 hg) Z Z Z Z Z Z) ?_;obtain ⟨v15, hv15, h⟩ := h;refine Qc Z Z Qh (fun hg => Qd (Um _ _ (hv15 hg)) Z Z (.cons (QS hg (.agg (.pp (.pp (.pp (.pp (.pp (.pp (.pp (.pp (.pp (.pp (.pp (.pp .nil)))))))))))))) .nil) Z Z Z) <| Qc Z Z Qh (fun hg => Qt (Q8 hg) Z Z) <| Q3 Z Z Q6 (fun hg => Qa (v := .bool (!(v15))) (w := .bool false) (Q8 hg) Z (Z5 hg) Z Qf Z Z Z) <| u0 (Qb (v := .bool true) (w := .bool ((bif (v1.fa == (-1)) then !(v15) else false))) Z Z Q6 Z Qf Z Z Z) <| rt (hL _ ?_);refine QY Z h (fun h => ?_) fun h => ?_
          · refine tk fun L hL => Qr Z Z <| rt (hL _ ?_);obtain rfl := h;exact Qe (hQ _ _ (QX Z Z))
          · refine Qg (hL14 _ ?_);refine QF (st' := ⟨[(0, .c (.p (.l 38 (List.map e_api_Record a0)))), (1, .c (.p (.v (.int .i64 a1)))), (5, .c (.ptr (5, 0) 0 0))], [((5, 0), some (.box (List.map CV.p (e_api_Record v1))))]⟩) (QG.nm [0, 1, 5] [((5, 0), (5, 0))] Z Z) ?_;refine Zo (fun (p16 : Unit) => (⟨[], []⟩ : St)) h (fun p16 h => ?_) (fun J16 L16 hL16 h => ?_)
            · refine tk fun L hL => Qr Z Z <| rt (hL _ ?_);obtain rfl := h;exact Qe (hQ _ _ (QX Z Z))
            · refine tk fun L hL => Qr Z Z <| rt (hL _ ?_);refine Ql ?_;refine ZK (fun (s17 : Int) => (⟨[(0, .c (.p (.l 38 (List.map e_api_Record a0)))), (1, .c (.p (.v (.int .i64 a1)))), (5, .c (.ptr (5, 0) 0 0)), (9, .c (.p (.v (.int .i64 s17))))], [((5, 0), some (.box (List.map CV.p (e_api_Record v1))))]⟩ : St)) h (QG.nm [0, 1, 5, 9] [((5, 0), (5, 0))] Z (by kernel_rfl)) (fun X17 L17 hL17 s17 h => ?_);refine sk fun L18 hL18 => tk fun L hL => mv Z <| mv Z <| u0 (Q5 (c := decide (s17 < a1)) Z Z Z Z Z) <| rt (hL _ ?_);refine QY Z h (fun h => ?_) fun h => ?_
              · refine Qg (hL18 _ ?_);refine sk fun L19 hL19 => Ql <| dk mixed (fun L hL => ?_);refine u0 (Q2 Z Z Z Z Z Z Z Z Z) <| u0 (Q1 Z Z Z Z Z Z) <| u0 (Q5 (c := (v1.fb != (-1))) Z Z Z Z Z) <| mv Z <| Q3 Z Z Q9 (fun hg => Q7 Z Z) <| Q3 Z Z Q9 (fun hg => Q7 Z Z) ?_;obtain ⟨v20, hv20, h⟩ := h;refine Q3 Z Z Q9 (fun hg => Qk (hv20 hg) (Q8 hg) (Q8 hg) Z Z Z Z Z Z) <| Q3 Z Z Q9 (fun hg => QK (Q8 hg) Z Z Z Z Z Z Z) <| Q3 Z Z Q9 (fun hg => Qn (Q8 hg) Z Z Z Z) <| Q3 Z Z Q9 (fun hg => Q2 Z Z Z Z Z Z Z Z Z) <| Q3 Z Z Q9 (fun hg => Q1 (Q8 hg) Z Z Z Z Z) <| Q3 Z Z Q9 (fun hg => Q5 (c := (v20.fb == v1.fb)) (Q8 hg) (Q8 hg) Z Z Z) <| u0 (Qa (v := .bool ((v20.fb == v1.fb))) (w := .bool false) Z Z Q9 Z Qf Z Z Z) <| mv Z <| Q3 Z Z Q6 (fun hg => Q2 Z Z Z Z Z Z Z Z Z) <| Q3 Z Z Q6 (fun hg => Q1 (Q8 hg) Z Z Z Z Z) <| Q3 Z Z Q6 (fun hg => Q5 (c := (v1.fa != (-1))) (Q8 hg) Z Z Z Z) <| Q3 Z Z Q6 (fun hg => Q7 (Q8 hg) Z) <| Qc Z Z Qh (fun hg => Q7 Z Z) <| Qc Z Z Qh (fun hg => Q7 Z Z) ?_
                obtain ⟨v21, hv21, h⟩ := h;refine Qc Z Z Qh (fun hg => Qk (hv21 hg) (Q8 hg) (Q8 hg) Z Z Z Z Z Z) <| Qc Z Z Qh (fun hg => QK (Q8 hg) Z Z Z Z Z Z Z) <| Qc Z Z Qh (fun hg => Qn (Q8 hg) Z Z Z Z) <| Qc Z Z Qh (fun hg => Q2 Z Z Z Z Z Z Z Z Z) <| Qc Z Z Qh (fun hg => Q1 (Q8 hg) Z Z Z Z Z) <| Qc Z Z Qh (fun hg => Q5 (c := (v21.fa == v1.fa)) (Q8 hg) (Q8 hg) Z Z Z) <| Q3 Z Z Q6 (fun hg => Qa (v := .bool ((v21.fa == v1.fa))) (w := .bool false) (Q8 hg) Z (Z5 hg) Z Qf Z Z Z) <| u0 (Qb (v := .bool true) (w := .bool ((bif (v1.fa != (-1)) then (v21.fa == v1.fa) else false))) Z Z Q6 Z Qf Z Z Z) <| rd (hL _ ?_);refine QY Z h (fun h => ?_) fun h => ?_
                · refine tk fun L hL => Qr Z Z <| rt (hL _ ?_);obtain rfl := h;exact Qe (hQ _ _ (QX Z Z))
                · refine Qg (hL19 _ ?_);refine QF (st' := ⟨[(0, .c (.p (.l 38 (List.map e_api_Record a0)))), (1, .c (.p (.v (.int .i64 a1)))), (5, .c (.ptr (5, 0) 0 0)), (9, .c (.p (.v (.int .i64 s17))))], [((5, 0), some (.box (List.map CV.p (e_api_Record v1))))]⟩) (QG.nm [0, 1, 5, 9] [((5, 0), (5, 0))] Z Z) ?_;refine tl fun L hL => mv Z <| u0 (QO Z Z Z Z Z) <| Qr Z Z ?_;refine rt (hL _ (hL17 _ _ h (QG.nm [0, 1, 5, 9] [((5, 0), (5, 0))] Z (by kernel_rfl))))
              · refine QM (hL16 _ _ h (QG.nm [] [] Z (by kernel_rfl)))
        · refine tk fun L hL => Qr Z Z <| rt (hL _ ?_);refine Ql ?_;refine ZK (fun (s8 : Int) => (⟨[(0, .c (.p (.l 38 (List.map e_api_Record a0)))), (1, .c (.p (.v (.int .i64 a1)))), (5, .c (.ptr (5, 0) 0 0)), (7, .c (.p (.v (.int .i64 s8))))], [((5, 0), some (.box (List.map CV.p (e_api_Record v1))))]⟩ : St)) h (QG.nm [0, 1, 5, 7] [((5, 0), (5, 0))] Z (by kernel_rfl)) (fun X8 L8 hL8 s8 h => ?_);refine sk fun L9 hL9 => tk fun L hL => mv Z <| mv Z <| u0 (Q5 (c := decide (s8 < a1)) Z Z Z Z Z) <| rt (hL _ ?_);refine QY Z h (fun h => ?_) fun h => ?_
          · refine Qg (hL9 _ ?_);refine sk fun L10 hL10 => Ql <| dk mixed (fun L hL => ?_);refine mv Z <| mv Z ?_;obtain ⟨v11, hv11, h⟩ := h;refine u0 (Qk hv11 Z Z Z Z Z Z Z Z) <| u0 (QK Z Z Z Z Z Z Z Z) <| u0 (Qn Z Z Z Z Z) <| u0 (Q2 Z Z Z Z Z Z Z Z Z) <| u0 (Q1 Z Z Z Z Z Z) <| u0 (Q5 (c := (v11.fm == v1.fm)) Z Z Z Z Z) <| mv Z <| Q3 Z Z Q9 (fun hg => Q7 Z Z) <| Q3 Z Z Q9 (fun hg => Q7 Z Z) ?_;obtain ⟨v12, hv12, h⟩ := h;refine Q3 Z Z Q9 (fun hg => Qk (hv12 hg) (Q8 hg) (Q8 hg) Z Z Z Z Z Z) <| Q3 Z Z Q9 (fun hg => QK (Q8 hg) Z Z Z Z Z Z Z) <| Q3 Z Z Q9 (fun hg => Qn (Q8 hg) Z Z Z Z) <| Q3 Z Z Q9 (fun hg => Q5 (c := (v12.fa == (-1))) (Q8 hg) Z Z Z Z) <| Q3 Z Z Q9 (fun hg => Q7 (Q8 hg) Z) <| Qc Z Z QC (fun hg => Q7 Z Z) <| Qc Z Z QC (fun hg => Q7 Z Z) ?_;obtain ⟨v13, hv13, h⟩ := h;refine Qc Z Z QC (fun hg => Qk (hv13 hg) (Q8 hg) (Q8 hg) Z Z Z Z Z Z) <| Qc Z Z QC (fun hg => QK (Q8 hg) Z Z Z Z Z Z Z) <| Qc Z Z QC (fun hg => Qn (Q8 hg) Z Z Z Z) <| Qc Z Z QC (fun hg => Q2 Z Z Z Z Z Z Z Z Z) <| Qc Z Z QC (fun hg => Q1 (Q8 hg) Z Z Z Z Z) <| Qc Z Z QC (fun hg => Q5 (c := decide (v13.fa ≥ v1.fk)) (Q8 hg) (Q8 hg) Z Z Z) <| Q3 Z Z Q9 (fun hg => Qb (v := .bool true) (w := .bool (decide (v13.fa ≥ v1.fk))) (Q8 hg) Z (Jg hg) Z Qf Z Z Z) <| u0 (Qa (v := .bool ((bif (v12.fa == (-1)) then true else decide (v13.fa ≥ v1.fk)))) (w := .bool false) Z Z Q9 Z Qf Z Z Z) <| rd (hL _ ?_)
            refine QY Z h (fun h => ?_) fun h => ?_
            · refine tk fun L hL => Qr Z Z <| rt (hL _ ?_);obtain rfl := h;exact Qe (hQ _ _ (QX Z Z))
            · refine Qg (hL10 _ ?_);refine QF (st' := ⟨[(0, .c (.p (.l 38 (List.map e_api_Record a0)))), (1, .c (.p (.v (.int .i64 a1)))), (5, .c (.ptr (5, 0) 0 0)), (7, .c (.p (.v (.int .i64 s8))))], [((5, 0), some (.box (List.map CV.p (e_api_Record v1))))]⟩) (QG.nm [0, 1, 5, 7] [((5, 0), (5, 0))] Z Z) ?_;refine tl fun L hL => mv Z <| u0 (QO Z Z Z Z Z) <| Qr Z Z ?_;refine rt (hL _ (hL8 _ _ h (QG.nm [0, 1, 5, 7] [((5, 0), (5, 0))] Z (by kernel_rfl))))
          · refine QM (hL7 _ _ h (QG.nm [0, 1, 5] [((5, 0), (5, 0))] Z (by kernel_rfl)))
def Zz (a0 : (List Q4)) (Q : Int → Prop) : Prop :=
 jn (fun (p1 : Unit) => Q 0) (fun (J1 : Unit → Prop) => lp (fun (X2 : Int → Prop) (s2 : Int) => (((decide (s2 < ((a0.length : Int)))) = true → ∃ v5, Kr a0 s2 v5 ∧ ((((v5 != 0)) = true → Q v5) ∧ (((v5 != 0)) = false → X2 ((IntKind.i64.wrap (s2 + 1)))))) ∧ ((decide (s2 < ((a0.length : Int)))) = false → J1 (())))) 0)
def ZX (a0 : (List Q4)) (r : Int) : Prop := Zz a0 fun x => r = x
theorem Yi {a0 : (List Q4)} {Post : Int → Prop} (h : Zz a0 Post) : ∃ r, ZX a0 r ∧ Post r := (show GM (Zz a0) (Zz a0) from GM.join (fun p1 => GM.ret _) (fun _ _ J1 => GM.loop (fun X Y Q s2 X2 h => ⟨fun hc => (Exists.elim (h.1 hc) fun v5 hv5 => ⟨v5, hv5.1, ⟨fun hc => hv5.2.1 hc, fun hc => X2 _ (hv5.2.2 hc)⟩⟩), fun hc => h.2 hc⟩) (fun _ _ X2 s2 => GM.cond (GM.ex fun v5 => GM.cond (GM.ret _) (X2 _)) (J1 _)))) Post h
theorem Yj (a0 : (List Q4)) (r : Int) (h : ZX a0 r) : Qq Try.prog 9 [.c (.l 38 (List.map e_api_Record a0))] [.c (.p (.v (.int .i64 r)))] [] := by
  refine Qp tb Try.func9 Z (by kernel_rfl) Z Z (Nat.le_of_ble_eq_true Z) Z ?_;intro E;unfold ZX Zz at h;refine Zx (fun Q hQ => ?_);refine tk fun L hL => Qr Z Z <| rt (hL _ ?_);refine Zo (fun (p1 : Unit) => (⟨[], []⟩ : St)) h (fun p1 h => ?_) (fun J1 L1 hL1 h => ?_)
  · refine tk fun L hL => Qr Z Z <| rt (hL _ ?_);obtain rfl := h;exact Qe (hQ _ _ (QX Z Z))
  · refine tk fun L hL => Qr Z Z <| rt (hL _ ?_);refine Ql ?_;refine ZK (fun (s2 : Int) => (⟨[(0, .c (.p (.l 38 (List.map e_api_Record a0)))), (3, .c (.p (.v (.int .i64 s2))))], []⟩ : St)) h (QG.nm [0, 3] [] Z (by kernel_rfl)) (fun X2 L2 hL2 s2 h => ?_);refine sk fun L3 hL3 => tk fun L hL => mv Z <| mv Z <| u0 (Qi Z Z Z Z) <| u0 (Q5 (c := decide (s2 < ((a0.length : Int)))) Z Z Z Z Z) <| rt (hL _ ?_);refine QY Z h (fun h => ?_) fun h => ?_
    · refine Qg (hL3 _ ?_);refine sk fun L4 hL4 => Ql <| tk fun L hL => mv Z <| mv Z ?_;obtain ⟨v5, hv5, h⟩ := h;refine u0 (Qd (Wk _ _ _ hv5) Z Z (.cons (.c (.p _)) (.cons (.c (.p _)) .nil)) Z Z Z) <| Qr Z Z <| rt (hL _ ?_);refine tk fun L hL => mv Z <| u0 (Q5 (c := (v5 != 0)) Z Z Z Z Z) <| rt (hL _ ?_);refine QY Z h (fun h => ?_) fun h => ?_
      · refine tk fun L hL => mv Z <| Qr Z Z <| rt (hL _ ?_);obtain rfl := h;exact Qe (hQ _ _ (QX Z Z))
      · refine Qg (hL4 _ ?_);refine tl fun L hL => mv Z <| u0 (QO Z Z Z Z Z) <| Qr Z Z ?_;refine rt (hL _ (hL2 _ _ h (QG.nm [0, 3] [] Z (by kernel_rfl))))
    · refine QM (hL1 _ _ h (QG.nm [] [] Z (by kernel_rfl)))
def Ku (a0 : (List Int)) (a1 : (List Int)) (Q : Bool → Prop) : Prop :=
 ((((((a0.length : Int)) != ((a1.length : Int)))) = true → Q false) ∧ (((((a0.length : Int)) != ((a1.length : Int)))) = false → jn (fun (p2 : Unit) => Q true) (fun (J2 : Unit → Prop) => lp (fun (X3 : Int → Prop) (s3 : Int) => (((decide (s3 < ((a0.length : Int)))) = true → ∃ v6, ix a0 s3 v6 ∧ ∃ v7, ix a1 s3 v7 ∧ ((((v6 != v7)) = true → Q false) ∧ (((v6 != v7)) = false → X3 ((IntKind.i64.wrap (s3 + 1)))))) ∧ ((decide (s3 < ((a0.length : Int)))) = false → J2 (())))) 0)))
def Ja (a0 : (List Int)) (a1 : (List Int)) (r : Bool) : Prop := Ku a0 a1 fun x => r = x
theorem Un {a0 : (List Int)} {a1 : (List Int)} {Post : Bool → Prop} (h : Ku a0 a1 Post) : ∃ r, Ja a0 a1 r ∧ Post r := (show GM (Ku a0 a1) (Ku a0 a1) from GM.cond (GM.ret _) (GM.join (fun p2 => GM.ret _) (fun _ _ J2 => GM.loop (fun X Y Q s3 X3 h => ⟨fun hc => (Exists.elim (h.1 hc) fun v6 hv6 => ⟨v6, hv6.1, (Exists.elim hv6.2 fun v7 hv7 => ⟨v7, hv7.1, ⟨fun hc => hv7.2.1 hc, fun hc => X3 _ (hv7.2.2 hc)⟩⟩)⟩), fun hc => h.2 hc⟩) (fun _ _ X3 s3 => GM.cond (GM.ex fun v6 => GM.ex fun v7 => GM.cond (GM.ret _) (X3 _)) (J2 _))))) Post h
theorem Uo (a0 : (List Int)) (a1 : (List Int)) (r : Bool) (h : Ja a0 a1 r) : Qq Try.prog 10 [.c (.l 1 (List.map (eI .i64) a0)), .c (.l 1 (List.map (eI .i64) a1))] [.c (.p (.v (.bool r)))] [] := by
  refine Qp tb Try.func10 Z (by kernel_rfl) Z Z (Nat.le_of_ble_eq_true Z) Z ?_;intro E;unfold Ja Ku at h;refine Zx (fun Q hQ => ?_);refine tk fun L hL => Qr Z Z <| rt (hL _ ?_);refine sk fun L1 hL1 => tk fun L hL => mv Z <| u0 (Qi Z Z Z Z) <| mv Z <| u0 (Qi Z Z Z Z) <| u0 (Q5 (c := (((a0.length : Int)) != ((a1.length : Int)))) Z Z Z Z Z) <| rt (hL _ ?_);refine QY Z h (fun h => ?_) fun h => ?_
  · refine tk fun L hL => Qr Z Z <| rt (hL _ ?_);obtain rfl := h;exact Qe (hQ _ _ (QX Z Z))
  · refine Qg (hL1 _ ?_);refine Zo (fun (p2 : Unit) => (⟨[], []⟩ : St)) h (fun p2 h => ?_) (fun J2 L2 hL2 h => ?_)
    · refine tk fun L hL => Qr Z Z <| rt (hL _ ?_);obtain rfl := h;exact Qe (hQ _ _ (QX Z Z))
    · refine tk fun L hL => Qr Z Z <| rt (hL _ ?_);refine Ql ?_;refine ZK (fun (s3 : Int) => (⟨[(0, .c (.p (.l 1 (List.map (eI .i64) a0)))), (1, .c (.p (.l 1 (List.map (eI .i64) a1)))), (5, .c (.p (.v (.int .i64 s3))))], []⟩ : St)) h (QG.nm [0, 1, 5] [] Z (by kernel_rfl)) (fun X3 L3 hL3 s3 h => ?_);refine sk fun L4 hL4 => tk fun L hL => mv Z <| mv Z <| u0 (Qi Z Z Z Z) <| u0 (Q5 (c := decide (s3 < ((a0.length : Int)))) Z Z Z Z Z) <| rt (hL _ ?_);refine QY Z h (fun h => ?_) fun h => ?_
      · refine Qg (hL4 _ ?_);refine sk fun L5 hL5 => Ql <| dk mixed (fun L hL => ?_);refine mv Z <| mv Z ?_;obtain ⟨v6, hv6, h⟩ := h;refine u0 (Qk hv6 Z Z Z Z Z Z Z Z) <| u0 (Qn Z Z Z Z Z) <| mv Z <| mv Z ?_;obtain ⟨v7, hv7, h⟩ := h;refine u0 (Qk hv7 Z Z Z Z Z Z Z Z) <| u0 (Qn Z Z Z Z Z) <| u0 (Q5 (c := (v6 != v7)) Z Z Z Z Z) <| rd (hL _ ?_);refine QY Z h (fun h => ?_) fun h => ?_
        · refine tk fun L hL => Qr Z Z <| rt (hL _ ?_);obtain rfl := h;exact Qe (hQ _ _ (QX Z Z))
        · refine Qg (hL5 _ ?_);refine tl fun L hL => mv Z <| u0 (QO Z Z Z Z Z) <| Qr Z Z ?_;refine rt (hL _ (hL3 _ _ h (QG.nm [0, 1, 5] [] Z (by kernel_rfl))))
      · refine QM (hL2 _ _ h (QG.nm [] [] Z (by kernel_rfl)))
def Jm (a0 : Q4) (a1 : Q4) (Q : Bool → Prop) : Prop :=
 Q (((bif (a0.fa != (-1)) then decide (a0.fa < a1.fk) else false)))
def ZA (a0 : Q4) (a1 : Q4) (r : Bool) : Prop := Jm a0 a1 fun x => r = x
theorem Vf (a0 : Q4) (a1 : Q4) (r : Bool) (h : ZA a0 a1 r) : Qq Try.prog 14 [.agg (e_api_Record a0), .agg (e_api_Record a1)] [.c (.p (.v (.bool r)))] [] := by
  refine Qp tb Try.func14 Z (by kernel_rfl) Z Z (Nat.le_of_ble_eq_true Z) Z ?_;intro E;unfold ZA Jm at h;refine Zx (fun Q hQ => ?_);refine tk fun L hL => u1 (QL Z Z) <| u1 (QL Z Z) <| Qr Z Z <| rt (hL _ ?_);refine tk fun L hL => u0 (Q2 Z Z Z Z Z Z Z Z Z) <| u0 (Q1 Z Z Z Z Z Z) <| u0 (Q5 (c := (a0.fa != (-1))) Z Z Z Z Z) <| mv Z <| Q3 Z Z Q9 (fun hg => Q2 Z Z Z Z Z Z Z Z Z) <| Q3 Z Z Q9 (fun hg => Q1 (Q8 hg) Z Z Z Z Z) <| Q3 Z Z Q9 (fun hg => Q2 Z Z Z Z Z Z Z Z Z) <| Q3 Z Z Q9 (fun hg => Q1 (Q8 hg) Z Z Z Z Z) <| Q3 Z Z Q9 (fun hg => Q5 (c := decide (a0.fa < a1.fk)) (Q8 hg) (Q8 hg) Z Z Z) <| u0 (Qa (v := .bool (decide (a0.fa < a1.fk))) (w := .bool false) Z Z Q9 Z Qf Z Z Z) <| Qr Z Z <| rt (hL _ ?_);obtain rfl := h;exact Qe (hQ _ _ (QX Z Z))
def ZB (a0 : (List Q4)) (a1 : (List Int)) (Q : Bool → Prop) : Prop :=
 jn (fun (p1 : Unit) => jn (fun (p7 : Unit) => Q true) (fun (J7 : Unit → Prop) => lp (fun (X8 : Int → Prop) (s8 : Int) => (((decide (s8 < ((a1.length : Int)))) = true → jn (fun (p10 : Unit) => X8 ((IntKind.i64.wrap (s8 + 1)))) (fun (J10 : Unit → Prop) => lp (fun (X11 : Int → Prop) (s11 : Int) => (((decide (s11 < s8)) = true → ∃ v14, ix a1 s8 v14 ∧ ∃ v15, ix a1 s11 v15 ∧ ∃ (v16 : Int), ((!((v14 == v15))) = true → ix a1 s8 v16) ∧ ∃ (v17 : Q4), ((!((v14 == v15))) = true → ix a0 v16 v17) ∧ ∃ (v18 : Int), ((!((v14 == v15))) = true → ix a1 s11 v18) ∧ ∃ (v19 : Q4), ((!((v14 == v15))) = true → ix a0 v18 v19) ∧ ∃ (v20 : Bool), ((!((v14 == v15))) = true → ZA v17 v19 v20) ∧ ((((bif (v14 == v15) then true else v20)) = true → Q false) ∧ (((bif (v14 == v15) then true else v20)) = false → X11 ((IntKind.i64.wrap (s11 + 1)))))) ∧ ((decide (s11 < s8)) = false → J10 (())))) 0)) ∧ ((decide (s8 < ((a1.length : Int)))) = false → J7 (())))) 0)) (fun (J1 : Unit → Prop) => lp (fun (X2 : Int → Prop) (s2 : Int) => (((decide (s2 < ((a1.length : Int)))) = true → ∃ v5, ix a1 s2 v5 ∧ ∃ (v6 : Int), ((!(decide (v5 < 0))) = true → ix a1 s2 v6) ∧ ((((bif decide (v5 < 0) then true else decide (v6 ≥ ((a0.length : Int))))) = true → Q false) ∧ (((bif decide (v5 < 0) then true else decide (v6 ≥ ((a0.length : Int))))) = false → X2 ((IntKind.i64.wrap (s2 + 1)))))) ∧ ((decide (s2 < ((a1.length : Int)))) = false → J1 (())))) 0)
def ZC (a0 : (List Q4)) (a1 : (List Int)) (r : Bool) : Prop := ZB a0 a1 fun x => r = x
theorem Yk {a0 : (List Q4)} {a1 : (List Int)} {Post : Bool → Prop} (h : ZB a0 a1 Post) : ∃ r, ZC a0 a1 r ∧ Post r := (show GM (ZB a0 a1) (ZB a0 a1) from GM.join (fun p1 => GM.join (fun p7 => GM.ret _) (fun _ _ J7 => GM.loop (fun X Y Q s8 X8 h => ⟨fun hc => Uh (h.1 hc) (fun p10 h => X8 _ h) (fun _ _ J10 h => Ui h (fun _ _ X11 s11 h => ⟨fun hc => (Exists.elim (h.1 hc) fun v14 hv14 => ⟨v14, hv14.1, (Exists.elim hv14.2 fun v15 hv15 => ⟨v15, hv15.1, (Exists.elim hv15.2 fun v16 hv16 => ⟨v16, hv16.1, (Exists.elim hv16.2 fun v17 hv17 => ⟨v17, hv17.1, (Exists.elim hv17.2 fun v18 hv18 => ⟨v18, hv18.1, (Exists.elim hv18.2 fun v19 hv19 => ⟨v19, hv19.1, (Exists.elim hv19.2 fun v20 hv20 => ⟨v20, hv20.1, ⟨fun hc => hv20.2.1 hc, fun hc => X11 _ (hv20.2.2 hc)⟩⟩)⟩)⟩)⟩)⟩)⟩)⟩), fun hc => J10 _ (h.2 hc)⟩)), fun hc => h.2 hc⟩) (fun _ _ X8 s8 => GM.cond (GM.join (fun p10 => X8 _) (fun _ _ J10 => GM.loop (fun X Y Q s11 X11 h => ⟨fun hc => (Exists.elim (h.1 hc) fun v14 hv14 => ⟨v14, hv14.1, (Exists.elim hv14.2 fun v15 hv15 => ⟨v15, hv15.1, (Exists.elim hv15.2 fun v16 hv16 => ⟨v16, hv16.1, (Exists.elim hv16.2 fun v17 hv17 => ⟨v17, hv17.1, (Exists.elim hv17.2 fun v18 hv18 => ⟨v18, hv18.1, (Exists.elim hv18.2 fun v19 hv19 => ⟨v19, hv19.1, (Exists.elim hv19.2 fun v20 hv20 => ⟨v20, hv20.1, ⟨fun hc => hv20.2.1 hc, fun hc => X11 _ (hv20.2.2 hc)⟩⟩)⟩)⟩)⟩)⟩)⟩)⟩), fun hc => h.2 hc⟩) (fun _ _ X11 s11 => GM.cond (GM.ex fun v14 => GM.ex fun v15 => GM.ex fun v16 => GM.ex fun v17 => GM.ex fun v18 => GM.ex fun v19 => GM.ex fun v20 => GM.cond (GM.ret _) (X11 _)) (J10 _)))) (J7 _)))) (fun _ _ J1 => GM.loop (fun X Y Q s2 X2 h => ⟨fun hc => (Exists.elim (h.1 hc) fun v5 hv5 => ⟨v5, hv5.1, (Exists.elim hv5.2 fun v6 hv6 => ⟨v6, hv6.1, ⟨fun hc => hv6.2.1 hc, fun hc => X2 _ (hv6.2.2 hc)⟩⟩)⟩), fun hc => h.2 hc⟩) (fun _ _ X2 s2 => GM.cond (GM.ex fun v5 => GM.ex fun v6 => GM.cond (GM.ret _) (X2 _)) (J1 _)))) Post h
theorem Vg (a0 : (List Q4)) (a1 : (List Int)) (r : Bool) (h : ZC a0 a1 r) : Qq Try.prog 12 [.c (.l 38 (List.map e_api_Record a0)), .c (.l 1 (List.map (eI .i64) a1))] [.c (.p (.v (.bool r)))] [] := by
  refine Qp tb Try.func12 Z (by kernel_rfl) Z Z (Nat.le_of_ble_eq_true Z) Z ?_;intro E;unfold ZC ZB at h;refine Zx (fun Q hQ => ?_);refine tk fun L hL => Qr Z Z <| rt (hL _ ?_);refine Zo (fun (p1 : Unit) => (⟨[(0, .c (.p (.l 38 (List.map e_api_Record a0)))), (1, .c (.p (.l 1 (List.map (eI .i64) a1))))], []⟩ : St)) h (fun p1 h => ?_) (fun J1 L1 hL1 h => ?_)
  · refine Zo (fun (p7 : Unit) => (⟨[], []⟩ : St)) h (fun p7 h => ?_) (fun J7 L7 hL7 h => ?_)
    · refine tk fun L hL => Qr Z Z <| rt (hL _ ?_);obtain rfl := h;exact Qe (hQ _ _ (QX Z Z))
    · refine tk fun L hL => Qr Z Z <| rt (hL _ ?_);refine Ql ?_;refine ZK (fun (s8 : Int) => (⟨[(0, .c (.p (.l 38 (List.map e_api_Record a0)))), (1, .c (.p (.l 1 (List.map (eI .i64) a1)))), (6, .c (.p (.v (.int .i64 s8))))], []⟩ : St)) h (QG.nm [0, 1, 6] [] Z (by kernel_rfl)) (fun X8 L8 hL8 s8 h => ?_);refine sk fun L9 hL9 => tk fun L hL => mv Z <| mv Z <| u0 (Qi Z Z Z Z) <| u0 (Q5 (c := decide (s8 < ((a1.length : Int)))) Z Z Z Z Z) <| rt (hL _ ?_);refine QY Z h (fun h => ?_) fun h => ?_
      · refine Qg (hL9 _ ?_);refine Zo (fun (p10 : Unit) => (⟨[(0, .c (.p (.l 38 (List.map e_api_Record a0)))), (1, .c (.p (.l 1 (List.map (eI .i64) a1)))), (6, .c (.p (.v (.int .i64 s8))))], []⟩ : St)) h (fun p10 h => ?_) (fun J10 L10 hL10 h => ?_)
        · refine tl fun L hL => mv Z <| u0 (QO Z Z Z Z Z) <| Qr Z Z ?_;refine rt (hL _ (hL8 _ _ h (QG.nm [0, 1, 6] [] Z (by kernel_rfl))))
        · refine Ql <| tk fun L hL => Qr Z Z <| rt (hL _ ?_);refine Ql ?_;refine ZK (fun (s11 : Int) => (⟨[(0, .c (.p (.l 38 (List.map e_api_Record a0)))), (1, .c (.p (.l 1 (List.map (eI .i64) a1)))), (6, .c (.p (.v (.int .i64 s8)))), (7, .c (.p (.v (.int .i64 s11))))], []⟩ : St)) h (QG.nm [0, 1, 6, 7] [] Z (by kernel_rfl)) (fun X11 L11 hL11 s11 h => ?_);refine sk fun L12 hL12 => tk fun L hL => mv Z <| mv Z <| u0 (Q5 (c := decide (s11 < s8)) Z Z Z Z Z) <| rt (hL _ ?_);refine QY Z h (fun h => ?_) fun h => ?_
          · refine Qg (hL12 _ ?_);refine sk fun L13 hL13 => Ql <| dk mixed (fun L hL => ?_);refine mv Z <| mv Z ?_;obtain ⟨v14, hv14, h⟩ := h;refine u0 (Qk hv14 Z Z Z Z Z Z Z Z) <| u0 (Qn Z Z Z Z Z) <| mv Z <| mv Z ?_;obtain ⟨v15, hv15, h⟩ := h;refine u0 (Qk hv15 Z Z Z Z Z Z Z Z) <| u0 (Qn Z Z Z Z Z) <| u0 (Q5 (c := (v14 == v15)) Z Z Z Z Z) <| mv Z <| Q3 Z Z Q6 (fun hg => Q7 Z Z) <| Q3 Z Z Q6 (fun hg => Q7 Z Z) <| Q3 Z Z Q6 (fun hg => Q7 Z Z) ?_;obtain ⟨v16, hv16, h⟩ := h;refine Q3 Z Z Q6 (fun hg => Qk (hv16 hg) (Q8 hg) (Q8 hg) Z Z Z Z Z Z) <| Q3 Z Z Q6 (fun hg => Qn (Q8 hg) Z Z Z Z) ?_;obtain ⟨v17, hv17, h⟩ := h;refine Q3 Z Z Q6 (fun hg => Qk (hv17 hg) (Q8 hg) (Q8 hg) Z Z Z Z Z Z) <| Q3 Z Z Q6 (fun hg => Qy (Q8 hg) Z Z Z Z Z Z) <| Q3 Z Z Q6 (fun hg => Q7 Z Z) <| Q3 Z Z Q6 (fun hg => Q7 Z Z) <| Q3 Z Z Q6 (fun hg => Q7 Z Z) ?_;obtain ⟨v18, hv18, h⟩ := h;refine Q3 Z Z Q6 (fun hg => Qk (hv18 hg) (Q8 hg) (Q8 hg) Z Z Z Z Z Z) <| Q3 Z Z Q6 (fun hg => Qn (Q8 hg) Z Z Z Z) ?_
            obtain ⟨v19, hv19, h⟩ := h;refine Q3 Z Z Q6 (fun hg => Qk (hv19 hg) (Q8 hg) (Q8 hg) Z Z Z Z Z Z) <| Q3 Z Z Q6 (fun hg => Qy (Q8 hg) Z Z Z Z Z Z) ?_;obtain ⟨v20, hv20, h⟩ := h;refine Q3 Z Z Q6 (fun hg => Qd (Vf _ _ _ (hv20 hg)) Z Z (.cons (QS hg (.agg (.pp (.pp (.pp (.pp (.pp (.pp (.pp (.pp (.pp (.pp (.pp (.pp (.pp (.pp (.pp (.pp (.pp (.pp (.pp (.pp (.pp (.pp (.pp (.pp (.pp (.pp (.pp (.pp (.pp (.pp (.pp (.pp (.pp (.pp (.pp (.pp (.pp (.pp .nil)))))))))))))))))))))))))))))))))))))))) (.cons (QS hg (.agg (.pp (.pp (.pp (.pp (.pp (.pp (.pp (.pp (.pp (.pp (.pp (.pp (.pp (.pp (.pp (.pp (.pp (.pp (.pp (.pp (.pp (.pp (.pp (.pp (.pp (.pp (.pp (.pp (.pp (.pp (.pp (.pp (.pp (.pp (.pp (.pp (.pp (.pp .nil)))))))))))))))))))))))))))))))))))))))) .nil)) Z Z Z) <| u0 (Qb (v := .bool true) (w := .bool v20) Z Z Q6 Z Qf Z Z Z) <| rd (hL _ ?_);refine QY Z h (fun h => ?_) fun h => ?_
            · refine tk fun L hL => Qr Z Z <| rt (hL _ ?_);obtain rfl := h;exact Qe (hQ _ _ (QX Z Z))
            · refine Qg (hL13 _ ?_);refine QF (st' := ⟨[(0, .c (.p (.l 38 (List.map e_api_Record a0)))), (1, .c (.p (.l 1 (List.map (eI .i64) a1)))), (6, .c (.p (.v (.int .i64 s8)))), (7, .c (.p (.v (.int .i64 s11))))], []⟩) (QG.nm [0, 1, 6, 7] [] Z Z) ?_;refine tl fun L hL => mv Z <| u0 (QO Z Z Z Z Z) <| Qr Z Z ?_;refine rt (hL _ (hL11 _ _ h (QG.nm [0, 1, 6, 7] [] Z (by kernel_rfl))))
          · refine QM (hL10 _ _ h (QG.nm [0, 1, 6] [] Z (by kernel_rfl)))
      · refine QM (hL7 _ _ h (QG.nm [] [] Z (by kernel_rfl)))
  · refine tk fun L hL => Qr Z Z <| rt (hL _ ?_);refine Ql ?_;refine ZK (fun (s2 : Int) => (⟨[(0, .c (.p (.l 38 (List.map e_api_Record a0)))), (1, .c (.p (.l 1 (List.map (eI .i64) a1)))), (5, .c (.p (.v (.int .i64 s2))))], []⟩ : St)) h (QG.nm [0, 1, 5] [] Z (by kernel_rfl)) (fun X2 L2 hL2 s2 h => ?_);refine sk fun L3 hL3 => tk fun L hL => mv Z <| mv Z <| u0 (Qi Z Z Z Z) <| u0 (Q5 (c := decide (s2 < ((a1.length : Int)))) Z Z Z Z Z) <| rt (hL _ ?_);refine QY Z h (fun h => ?_) fun h => ?_
    · refine Qg (hL3 _ ?_);refine sk fun L4 hL4 => Ql <| tk fun L hL => mv Z <| mv Z ?_;obtain ⟨v5, hv5, h⟩ := h;refine u0 (Qk hv5 Z Z Z Z Z Z Z Z) <| u0 (Qn Z Z Z Z Z) <| u0 (Q5 (c := decide (v5 < 0)) Z Z Z Z Z) <| mv Z <| Q3 Z Z Q6 (fun hg => Q7 Z Z) <| Q3 Z Z Q6 (fun hg => Q7 Z Z) ?_;obtain ⟨v6, hv6, h⟩ := h;refine Q3 Z Z Q6 (fun hg => Qk (hv6 hg) (Q8 hg) (Q8 hg) Z Z Z Z Z Z) <| Q3 Z Z Q6 (fun hg => Qn (Q8 hg) Z Z Z Z) <| Q3 Z Z Q6 (fun hg => Q7 Z Z) <| Q3 Z Z Q6 (fun hg => Qi (Q8 hg) Z Z Z) <| Q3 Z Z Q6 (fun hg => Q5 (c := decide (v6 ≥ ((a0.length : Int)))) (Q8 hg) (Q8 hg) Z Z Z) <| u0 (Qb (v := .bool true) (w := .bool (decide (v6 ≥ ((a0.length : Int))))) Z Z Q6 Z Qf Z Z Z) <| rt (hL _ ?_);refine QY Z h (fun h => ?_) fun h => ?_
      · refine tk fun L hL => Qr Z Z <| rt (hL _ ?_);obtain rfl := h;exact Qe (hQ _ _ (QX Z Z))
      · refine Qg (hL4 _ ?_);refine QF (st' := ⟨[(0, .c (.p (.l 38 (List.map e_api_Record a0)))), (1, .c (.p (.l 1 (List.map (eI .i64) a1)))), (5, .c (.p (.v (.int .i64 s2))))], []⟩) (QG.nm [0, 1, 5] [] Z Z) ?_;refine tl fun L hL => mv Z <| u0 (QO Z Z Z Z Z) <| Qr Z Z ?_;refine rt (hL _ (hL2 _ _ h (QG.nm [0, 1, 5] [] Z (by kernel_rfl))))
    · refine QM (hL1 _ _ h (QG.nm [0, 1] [] Z (by kernel_rfl)))
set_option maxRecDepth 100000
set_option maxHeartbeats 4000000
def KO (a0 : (List Q4)) (a1 : (List Int)) (Q : Bool → Prop) : Prop :=
 ∃ v2, KB a0 v2 ∧ ((((bif !(v2) then true else decide (((a1.length : Int)) > 30))) = true → Kh  true ∧ Q true) ∧ (((bif !(v2) then true else decide (((a1.length : Int)) > 30))) = false → ∃ v4, ZI a0 v4 ∧ ∃ v5, KE a0 v5 ∧ ∃ v7, Zk a0 v7 ∧ ∃ v8, ZX a0 v8 ∧ ∃ (v9 : Bool), ((!((v7 != v8))) = true → Ja v4 v5 v9) ∧ ∃ (v10 : Bool), ((!((bif (v7 != v8) then true else !(v9)))) = true → QU a0 a1 v10) ∧ ∃ (v11 : Bool), ((!((bif (v7 != v8) then true else !(v9)))) = true → ZC a0 a1 v11) ∧ ∃ (v12 : Bool), ((!((bif (bif (v7 != v8) then true else !(v9)) then true else (!(v10 == v11))))) = true → QU a0 v4 v12) ∧ ∃ (v13 : Bool), ((!((bif (bif (v7 != v8) then true else !(v9)) then true else (!(v10 == v11))))) = true → ZC a0 v4 v13) ∧ ((((bif (bif (bif (v7 != v8) then true else !(v9)) then true else (!(v10 == v11))) then true else (!(v12 == v13)))) = true → Q false) ∧ (((bif (bif (bif (v7 != v8) then true else !(v9)) then true else (!(v10 == v11))) then true else (!(v12 == v13)))) = false → jn (fun (p14 : Unit) => Kh  true ∧ Q true) (fun (J14 : Unit → Prop) => lp (fun (X15 : Int → Prop) (s15 : Int) => (((decide ((IntKind.i64.wrap (s15 + 1)) < ((a0.length : Int)))) = true → ∃ v18, ix a0 s15 v18 ∧ ∃ v19, ix a0 (IntKind.i64.wrap (s15 + 1)) v19 ∧ ∃ v20, QT v18 v19 v20 ∧ ∃ v21, ix a0 s15 v21 ∧ ∃ v22, ix a0 (IntKind.i64.wrap (s15 + 1)) v22 ∧ ∃ v23, ZA v21 v22 v23 ∧ ((((!(v20 == v23))) = true → Q false) ∧ (((!(v20 == v23))) = false → X15 ((IntKind.i64.wrap (s15 + 1)))))) ∧ ((decide ((IntKind.i64.wrap (s15 + 1)) < ((a0.length : Int)))) = false → J14 (())))) 0)))))
def K7 (a0 : (List Q4)) (a1 : (List Int)) (r : Bool) : Prop := KO a0 a1 fun x => r = x
theorem Xw (a0 : (List Q4)) (a1 : (List Int)) (r : Bool) (h : K7 a0 a1 r) : Qq Try.prog 3 [.c (.l 38 (List.map e_api_Record a0)), .c (.l 1 (List.map (eI .i64) a1))] [.c (.p (.v (.bool r)))] [] := by
  refine Qp tb Try.func3 Z (by kernel_rfl) Z Z (Nat.le_of_ble_eq_true Z) Z ?_;intro E;unfold K7 KO at h;refine Zx (fun Q hQ => ?_);refine tk fun L hL => Qr Z Z <| rt (hL _ ?_);refine sk fun L1 hL1 => tk fun L hL => mv Z ?_;obtain ⟨v2, hv2, h⟩ := h;refine u0 (Qd (WC _ _ hv2) Z Z (.cons (.c (.p _)) .nil) Z Z Z) <| u0 (Qt Z Z Z) <| mv Z <| Q3 Z Z Q6 (fun hg => Q7 Z Z) <| Q3 Z Z Q6 (fun hg => Qi (Q8 hg) Z Z Z) <| Q3 Z Z Q6 (fun hg => Q5 (c := decide (((a1.length : Int)) > 30)) (Q8 hg) Z Z Z Z) <| u0 (Qb (v := .bool true) (w := .bool (decide (((a1.length : Int)) > 30))) Z Z Q6 Z Qf Z Z Z) <| rt (hL _ ?_);refine QY Z h (fun h => ?_) fun h => ?_
  · refine tk fun L hL => ?_;obtain ⟨hv3, h⟩ := h;refine u0 (Qd (Xi  _ hv3) Z Z .nil Z Z Z) <| Qr Z Z <| rt (hL _ ?_);obtain rfl := h;exact Qe (hQ _ _ (QX Z Z))
  · refine Qg (hL1 _ ?_);refine QF (st' := ⟨[(0, .c (.p (.l 38 (List.map e_api_Record a0)))), (1, .c (.p (.l 1 (List.map (eI .i64) a1))))], []⟩) (QG.nm [0, 1] [] Z Z) ?_;refine tk fun L hL => mv Z ?_;obtain ⟨v4, hv4, h⟩ := h;refine ul (W6 (VB _ _ hv4) Z Z (.cons (.c (.p _)) .nil) Z Z Z) <| mv Z ?_;obtain ⟨v5, hv5, h⟩ := h;refine ul (W6 (WG _ _ hv5) Z Z (.cons (.c (.p _)) .nil) Z Z Z) <| Qr Z Z <| Qr Z Z <| rt (hL _ ?_);refine sk fun L6 hL6 => tk fun L hL => mv Z ?_;obtain ⟨v7, hv7, h⟩ := h;refine u0 (Qd (JB _ _ hv7) Z Z (.cons (.c (.p _)) .nil) Z Z Z) <| mv Z ?_;obtain ⟨v8, hv8, h⟩ := h;refine u0 (Qd (Yj _ _ hv8) Z Z (.cons (.c (.p _)) .nil) Z Z Z) <| u0 (Q5 (c := (v7 != v8)) Z Z Z Z Z) <| mv Z <| Q3 Z Z Q6 (fun hg => Q7 Z Z) <| Q3 Z Z Q6 (fun hg => Q7 Z Z) ?_;obtain ⟨v9, hv9, h⟩ := h;refine Q3 Z Z Q6 (fun hg => QR (Uo _ _ _ (hv9 hg)) (Vb (ZL.cons (.p Z) ZL.nil)) Z Z (.cons (QS hg (.c (.fr Z (Z6 Z)))) (.cons (QS hg (.c (.fr Z (Z6 Z)))) .nil)) Z Z Z) <| Q3 Z Z Q6 (fun hg => Qt (Q8 hg) Z Z) <| u0 (Qb (v := .bool true) (w := .bool (!(v9))) Z Z Q6 Z Qf Z Z Z) <| mv Z <| Q3 Z Z Q6 (fun hg => Q7 Z Z) <| Q3 Z Z Q6 (fun hg => Q7 Z Z) ?_
    obtain ⟨v10, hv10, h⟩ := h;refine Q3 Z Z Q6 (fun hg => Qd (K5 _ _ _ (hv10 hg)) Z Z (.cons (QS hg (.c (.p _))) (.cons (QS hg (.c (.p _))) .nil)) Z Z Z) <| Q3 Z Z Q6 (fun hg => Q7 Z Z) <| Q3 Z Z Q6 (fun hg => Q7 Z Z) ?_;obtain ⟨v11, hv11, h⟩ := h;refine Q3 Z Z Q6 (fun hg => Qd (Vg _ _ _ (hv11 hg)) Z Z (.cons (QS hg (.c (.p _))) (.cons (QS hg (.c (.p _))) .nil)) Z Z Z) <| Q3 Z Z Q6 (fun hg => Yd (Q8 hg) (Q8 hg) Z Z Z Z) <| u0 (Qb (v := .bool true) (w := .bool ((!(v10 == v11)))) Z Z Q6 Z Qf Z Z Z) <| mv Z <| Q3 Z Z Q6 (fun hg => Q7 Z Z) <| Q3 Z Z Q6 (fun hg => Q7 Z Z) ?_;obtain ⟨v12, hv12, h⟩ := h;refine Q3 Z Z Q6 (fun hg => QR (K5 _ _ _ (hv12 hg)) (Vb (ZL.cons (.p Z) ZL.nil)) Z Z (.cons (QS hg (.c (.p _))) (.cons (QS hg (.c (.fr Z (Z6 Z)))) .nil)) Z Z Z) <| Q3 Z Z Q6 (fun hg => Q7 Z Z) <| Q3 Z Z Q6 (fun hg => Q7 Z Z) ?_;obtain ⟨v13, hv13, h⟩ := h;refine Q3 Z Z Q6 (fun hg => QR (Vg _ _ _ (hv13 hg)) (Vb (ZL.cons (.p Z) ZL.nil)) Z Z (.cons (QS hg (.c (.p _))) (.cons (QS hg (.c (.fr Z (Z6 Z)))) .nil)) Z Z Z) <| Q3 Z Z Q6 (fun hg => Yd (Q8 hg) (Q8 hg) Z Z Z Z) <| u0 (Qb (v := .bool true) (w := .bool ((!(v12 == v13)))) Z Z Q6 Z Qf Z Z Z) <| rt (hL _ ?_)
    refine QY Z h (fun h => ?_) fun h => ?_
    · refine tk fun L hL => Qr Z Z <| rt (hL _ ?_);obtain rfl := h;exact Qe (hQ _ _ (QX Z Z))
    · refine Qg (hL6 _ ?_);refine QF (st' := ⟨[(0, .c (.p (.l 38 (List.map e_api_Record a0))))], []⟩) (QG.nm [0] [] Z Z) ?_;refine Zo (fun (p14 : Unit) => (⟨[], []⟩ : St)) h (fun p14 h => ?_) (fun J14 L14 hL14 h => ?_)
      · refine tk fun L hL => ?_;obtain ⟨hv24, h⟩ := h;refine u0 (Qd (Xi  _ hv24) Z Z .nil Z Z Z) <| Qr Z Z <| rt (hL _ ?_);obtain rfl := h;exact Qe (hQ _ _ (QX Z Z))
      · refine tk fun L hL => Qr Z Z <| rt (hL _ ?_);refine Ql ?_;refine ZK (fun (s15 : Int) => (⟨[(0, .c (.p (.l 38 (List.map e_api_Record a0)))), (7, .c (.p (.v (.int .i64 s15))))], []⟩ : St)) h (QG.nm [0, 7] [] Z (by kernel_rfl)) (fun X15 L15 hL15 s15 h => ?_);refine sk fun L16 hL16 => tk fun L hL => mv Z <| u0 (QO Z Z Z Z Z) <| mv Z <| u0 (Qi Z Z Z Z) <| u0 (Q5 (c := decide ((IntKind.i64.wrap (s15 + 1)) < ((a0.length : Int)))) Z Z Z Z Z) <| rt (hL _ ?_);refine QY Z h (fun h => ?_) fun h => ?_
        · refine Qg (hL16 _ ?_);refine sk fun L17 hL17 => Ql <| dk mixed (fun L hL => ?_);refine mv Z <| mv Z ?_;obtain ⟨v18, hv18, h⟩ := h;refine u0 (Qk hv18 Z Z Z Z Z Z Z Z) <| u0 (Qy Z Z Z Z Z Z Z) <| mv Z <| mv Z <| u0 (QO Z Z Z Z Z) ?_;obtain ⟨v19, hv19, h⟩ := h;refine u0 (Qk hv19 Z Z Z Z Z Z Z Z) <| u0 (Qy Z Z Z Z Z Z Z) ?_;obtain ⟨v20, hv20, h⟩ := h;refine u0 (Qd (K4 _ _ _ hv20) Z Z (.cons (.agg (.pp (.pp (.pp (.pp (.pp (.pp (.pp (.pp (.pp (.pp (.pp (.pp (.pp (.pp (.pp (.pp (.pp (.pp (.pp (.pp (.pp (.pp (.pp (.pp (.pp (.pp (.pp (.pp (.pp (.pp (.pp (.pp (.pp (.pp (.pp (.pp (.pp (.pp .nil))))))))))))))))))))))))))))))))))))))) (.cons (.agg (.pp (.pp (.pp (.pp (.pp (.pp (.pp (.pp (.pp (.pp (.pp (.pp (.pp (.pp (.pp (.pp (.pp (.pp (.pp (.pp (.pp (.pp (.pp (.pp (.pp (.pp (.pp (.pp (.pp (.pp (.pp (.pp (.pp (.pp (.pp (.pp (.pp (.pp .nil))))))))))))))))))))))))))))))))))))))) .nil)) Z Z Z) <| mv Z <| mv Z ?_;obtain ⟨v21, hv21, h⟩ := h;refine u0 (Qk hv21 Z Z Z Z Z Z Z Z) <| u0 (Qy Z Z Z Z Z Z Z) <| mv Z <| mv Z <| u0 (QO Z Z Z Z Z) ?_;obtain ⟨v22, hv22, h⟩ := h;refine u0 (Qk hv22 Z Z Z Z Z Z Z Z) <| u0 (Qy Z Z Z Z Z Z Z) ?_
          obtain ⟨v23, hv23, h⟩ := h;refine u0 (Qd (Vf _ _ _ hv23) Z Z (.cons (.agg (.pp (.pp (.pp (.pp (.pp (.pp (.pp (.pp (.pp (.pp (.pp (.pp (.pp (.pp (.pp (.pp (.pp (.pp (.pp (.pp (.pp (.pp (.pp (.pp (.pp (.pp (.pp (.pp (.pp (.pp (.pp (.pp (.pp (.pp (.pp (.pp (.pp (.pp .nil))))))))))))))))))))))))))))))))))))))) (.cons (.agg (.pp (.pp (.pp (.pp (.pp (.pp (.pp (.pp (.pp (.pp (.pp (.pp (.pp (.pp (.pp (.pp (.pp (.pp (.pp (.pp (.pp (.pp (.pp (.pp (.pp (.pp (.pp (.pp (.pp (.pp (.pp (.pp (.pp (.pp (.pp (.pp (.pp (.pp .nil))))))))))))))))))))))))))))))))))))))) .nil)) Z Z Z) <| u0 (Yd Z Z Z Z Z Z) <| rd (hL _ ?_);refine QY Z h (fun h => ?_) fun h => ?_
          · refine tk fun L hL => Qr Z Z <| rt (hL _ ?_);obtain rfl := h;exact Qe (hQ _ _ (QX Z Z))
          · refine Qg (hL17 _ ?_);refine tl fun L hL => mv Z <| u0 (QO Z Z Z Z Z) <| Qr Z Z ?_;refine rt (hL _ (hL15 _ _ h (QG.nm [0, 7] [] Z (by kernel_rfl))))
        · refine QM (hL14 _ _ h (QG.nm [] [] Z (by kernel_rfl)))
end Go.Proofs.Ytmkhonigljegbaa

namespace Go.Proofs.Ytmkhonigljegbaa
open Go.RowKit
theorem Zi {a b : Bool} : (bif a then b else false) = (a && b) := by cases a <;> rfl
theorem ZY {a b : Bool} : (bif a then true else b) = (a || b) := by cases a <;> rfl
theorem JH {n lo hi : Int} {r : Bool} : QH n lo hi r ↔ r = wI n lo hi := by
  unfold QH JC wI; by_cases h : lo ≤ n <;> simp [h]
theorem VU {n lo hi : Int} {r : Bool} : QJ n lo hi r ↔ r = wI n lo hi := by
  unfold QJ JF wI; by_cases h : lo ≤ n <;> simp [h]
theorem YK {n lo hi : Int} {r : Bool} : Z3 n lo hi r ↔ r = wI n lo hi := by
  unfold Z3 Js wI; by_cases h : lo ≤ n <;> simp [h]
theorem Wl {n lo hi : Int} {r : Bool} : ZF n lo hi r ↔ r = wI n lo hi := by
  unfold ZF JD wI; by_cases h : lo ≤ n <;> simp [h]
theorem WH {c : Int} {r : Bool} : Kf c r ↔ r = wI c 97 122 := by
  unfold Kf JW wI; by_cases h : (97 : Int) ≤ c <;> simp [h]
theorem WI {c : Int} {r : Bool} : KC c r ↔ r = wI c 48 57 := by
  unfold KC JX wI; by_cases h : (48 : Int) ≤ c <;> simp [h]
theorem Ky {n lo hi : Int} {r : Int} : Qz n lo hi r ↔ r = if lo ≤ n ∧ n ≤ hi then 0 else 5 := by
  unfold Qz Kw
  by_cases h : n < lo
  · simp [h]; rw [if_neg (by omega)]
  · by_cases h2 : n > hi
    · simp [h, h2]; rw [if_neg (by omega)]
    · simp [h, h2]; rw [if_pos (by omega)]
theorem B6 {s : ByteArray} : (decide (1 ≤ (s.size : Int)) && decide ((s.size : Int) ≤ 32)) = decide (1 ≤ s.size ∧ s.size ≤ 32) := by
  rw [Bool.decide_and]; congr 1 <;> exact decide_eq_decide.2 (by omega)
theorem Xk {s : ByteArray} {r : Bool} : Kg s r ↔ r = decide (1 ≤ s.size ∧ s.size ≤ 32) := by
  unfold Kg JY; rw [Zi, ← B6]
theorem XX {s : ByteArray} {r : Bool} : Kt s r ↔ r = decide (1 ≤ s.size ∧ s.size ≤ 32) := by
  unfold Kt Vs; rw [Zi, ← B6]
def VH (k s d z : Int) : Int :=
  if k = 1 then (if s ≠ 0 ∨ d ≠ 0 ∨ z ≠ 0 then 10 else 0)
  else if k = 2 then (if ¬ (1 ≤ d ∧ d ≤ 8 ∧ 1 ≤ s ∧ s ≤ 64) then 5 else 0)
  else if k = 3 then (if ¬ (2 ≤ s ∧ s ≤ 8) then 5 else if d ≠ 0 then 10 else 0)
  else if k = 4 ∨ k = 5 then (if ¬ (1 ≤ s ∧ s ≤ 32) then 5 else if d ≠ 0 ∨ z ≠ 0 then 10 else 0)
  else if k = 6 then (if ¬ (2 ≤ s ∧ s ≤ 32 ∧ s % 2 = 0) then 5 else if d ≠ 0 ∨ z ≠ 0 then 10 else 0)
  else 8
theorem Vh (p : Qw) : Z4 p (VH p.fc p.f3 p.fy p.fa3) := by
  unfold Z4 ZT
  simp only [jn, YK, exists_eq_left, Zi, ZY]
  obtain ⟨k, s, d, z⟩ := p
  simp only
  by_cases h1 : k = 1
  · subst h1; by_cases hs : s = 0 <;> by_cases hd : d = 0 <;> by_cases hz : z = 0 <;> simp [VH, hs, hd, hz]
  by_cases h2 : k = 2
  · subst h2
    by_cases hd : wI d 1 8 = true <;> by_cases hs : wI s 1 64 = true <;> simp [VH, hs, hd] <;> simp [wI] at hs hd <;> omega
  by_cases h3 : k = 3
  · subst h3
    by_cases hd : d = 0 <;> by_cases hs : wI s 2 8 = true <;> simp [VH, hs, hd] <;> simp [wI] at hs hd <;> omega
  by_cases h4 : k = 4 ∨ k = 5
  · have hk : (k == 4 || k == 5) = true := by simpa using h4
    by_cases hd : d = 0 <;> by_cases hz : z = 0 <;> by_cases hs : wI s 1 32 = true <;> rcases h4 with rfl | rfl <;> simp [VH, hs, hd, hz] <;> simp [wI] at hs hd <;> omega
  by_cases h6 : k = 6
  · subst h6
    by_cases hs : wI s 2 32 = true
    · have hs' : 2 ≤ s ∧ s ≤ 32 := by simpa [wI] using hs
      have ht : s.tmod 2 = s % 2 := Int.tmod_eq_emod_of_nonneg (by omega)
      by_cases hm : s % 2 = 0 <;> by_cases hd : d = 0 <;> by_cases hz : z = 0 <;> simp [VH, hs, hd, hz, ht, hm, hs']
    · have hs' : ¬ (2 ≤ s ∧ s ≤ 32) := by simpa [wI] using hs
      simp [VH, hs]; omega
  · have h4' : ¬ k = 4 ∧ ¬ k = 5 := by omega
    simp [VH, h1, h2, h3, h4'.1, h4'.2, h6]
theorem Vv (p : Qw) : QZ p (VH p.fc p.f3 p.fy p.fa3) := by
  unfold QZ K6
  simp only [jn, VU, exists_eq_left, Zi, ZY]
  obtain ⟨k, s, d, z⟩ := p
  simp only
  by_cases h1 : k = 1
  · subst h1; by_cases hs : s = 0 <;> by_cases hd : d = 0 <;> by_cases hz : z = 0 <;> simp [VH, hs, hd, hz]
  by_cases h2 : k = 2
  · subst h2
    by_cases hd : wI d 1 8 = true <;> by_cases hs : wI s 1 64 = true <;> simp [VH, hs, hd] <;> simp [wI] at hs hd <;> omega
  by_cases h3 : k = 3
  · subst h3
    by_cases hd : d = 0 <;> by_cases hs : wI s 2 8 = true <;> simp [VH, hs, hd] <;> simp [wI] at hs hd <;> omega
  by_cases h4 : k = 4 ∨ k = 5
  · have hk : (k == 4 || k == 5) = true := by simpa using h4
    by_cases hd : d = 0 <;> by_cases hz : z = 0 <;> by_cases hs : wI s 1 32 = true <;> rcases h4 with rfl | rfl <;> simp [VH, hs, hd, hz] <;> simp [wI] at hs hd <;> omega
  by_cases h6 : k = 6
  · subst h6
    by_cases hs : wI s 2 32 = true
    · have hs' : 2 ≤ s ∧ s ≤ 32 := by simpa [wI] using hs
      have ht : s.tmod 2 = s % 2 := Int.tmod_eq_emod_of_nonneg (by omega)
      by_cases hm : s % 2 = 0 <;> by_cases hd : d = 0 <;> by_cases hz : z = 0 <;> simp [VH, hs, hd, hz, ht, hm, hs']
    · have hs' : ¬ (2 ≤ s ∧ s ≤ 32) := by simpa [wI] using hs
      simp [VH, hs]; omega
  · have h4' : ¬ k = 4 ∧ ¬ k = 5 := by omega
    simp [VH, h1, h2, h3, h4'.1, h4'.2, h6]
def A5 (k : Int) (key : ByteArray) (c n d : Int) : Int :=
  if ¬ (1 ≤ k ∧ k ≤ 7) then 8
  else if (k = 2 ∨ k = 6) ∧ ¬ (1 ≤ key.size ∧ key.size ≤ 32) then 7
  else if k = 5 ∧ ¬ (0 ≤ c ∧ c ≤ 32) then 5
  else if k = 7 ∧ ¬ (1 ≤ d ∧ d ≤ 1000000 ∧ 0 ≤ n ∧ n ≤ d) then 5
  else if (¬ (k = 2 ∨ k = 6) ∧ key.toList ≠ []) ∨ (k ≠ 5 ∧ c ≠ 0) ∨ (k ≠ 7 ∧ (n ≠ 0 ∨ d ≠ 0)) then 18 else 0
theorem JI : (⟨#[]⟩ : ByteArray).toList = [] := by unfold ByteArray.toList; unfold ByteArray.toList.loop; simp [ByteArray.size]
theorem Yl (q : QB) : ZU q (A5 q.fc q.fu q.fi q.fa4 q.f7) := by
  unfold ZU Jj
  simp only [jn, Xk, Zi, ZY, JI]
  obtain ⟨k, s, c, n, d⟩ := q
  simp only
  by_cases hk : 1 ≤ k ∧ k ≤ 7
  · have h7 : k = 1 ∨ k = 2 ∨ k = 3 ∨ k = 4 ∨ k = 5 ∨ k = 6 ∨ k = 7 := by omega
    clear hk; unfold A5
    generalize s.toList = l
    rcases h7 with rfl | rfl | rfl | rfl | rfl | rfl | rfl
    all_goals simp
    all_goals grind
  · have h1 : k < 1 ∨ k > 7 := by omega
    simp [A5, hk, h1]
theorem VI (q : QB) : Z1 q (A5 q.fc q.fu q.fi q.fa4 q.f7) := by
  unfold Z1 Ki
  simp only [jn, XX, VU, exists_eq_left, Zi, ZY, JI]
  obtain ⟨k, s, c, n, d⟩ := q
  simp only
  by_cases hk : 1 ≤ k ∧ k ≤ 7
  · have h7 : k = 1 ∨ k = 2 ∨ k = 3 ∨ k = 4 ∨ k = 5 ∨ k = 6 ∨ k = 7 := by omega
    clear hk; unfold A5
    generalize s.toList = l
    rcases h7 with rfl | rfl | rfl | rfl | rfl | rfl | rfl
    all_goals simp [wI]
    all_goals grind
  · have h1 : k < 1 ∨ k > 7 := by omega
    have h2 : wI k 1 7 = false := by simp [wI]; omega
    simp [A5, hk, h1, h2]
theorem Kz (n : Nat) (hn : n ≤ 4611686018427387904) {B : (Int → Prop) → Int → Prop} {J : Prop} (I : Nat → Prop) (h0 : I 0)
    (hB : ∀ j, j < n → I j → ∀ X : Int → Prop, (I (j + 1) → X (IntKind.i64.wrap ((j : Int) + 1))) → B X (j : Int)) (hJ : I n → J) :
    lp (fun X s => (decide (s < (n : Int)) = true → B X s) ∧ (decide (s < (n : Int)) = false → J)) 0 := by
  refine We (I := fun k s => ∃ j : Nat, s = (j : Int) ∧ j ≤ n ∧ k = n - j ∧ I j) ?_ (k := n) ⟨0, rfl, by omega, by omega, h0⟩
  rintro k s ⟨j, rfl, hj, hk, hI⟩ X hX
  refine ⟨fun h => ?_, fun h => ?_⟩
  · have hj2 : (j : Int) < n := by simpa using h
    refine hB j (by omega) hI X fun hI2 => ?_
    rw [YI (by omega)]
    exact hX (n - (j + 1)) _ (by omega) ⟨j + 1, by omega, by omega, rfl, hI2⟩
  · have hj2 : ¬ (j : Int) < n := by simpa using h
    have : j = n := by omega
    subst this; exact hJ hI
def Ym (s : ByteArray) (j : Nat) : Int := if h : j < s.size then (s[j].toNat : Int) else 0
theorem Xx {s : ByteArray} {j : Nat} (h : j < s.size) : bx s (j : Int) (Ym s j) := bx_of rfl h (by simp [Ym, h])
def D3 (c : Int) : Bool := wI c 97 122 || wI c 48 57 || c == 45 || c == 46
def Ab (s : ByteArray) : Bool := decide (1 ≤ s.size ∧ s.size ≤ 16) && wI (Ym s 0) 97 122 && (List.range s.size).all fun j => D3 (Ym s j)
theorem B7 {s : ByteArray} (h1 : 1 ≤ s.size ∧ s.size ≤ 16) (h2 : wI (Ym s 0) 97 122 = true) (h : ∀ i, i < s.size → D3 (Ym s i) = true) : Ab s = true := by
  simp only [Ab, h1, h2]; simpa using h
theorem B8 {s : ByteArray} {i : Nat} (hi : i < s.size) (h : D3 (Ym s i) = false) : Ab s = false := by
  have : ((List.range s.size).all fun j => D3 (Ym s j)) = false := by
    rw [List.all_eq_false]; exact ⟨i, by simpa using hi, by simp [h]⟩
  simp [Ab, this]
theorem Wm (s : ByteArray) : Kl s (Ab s) := by
  unfold Kl Jz
  simp only [WH, WI, Zi, ZY, jn, exists_eq_left]
  by_cases hz : 1 ≤ s.size ∧ s.size ≤ 16
  · have h1 : decide ((s.size : Int) < 1) = false := by simp; omega
    have h2 : decide ((s.size : Int) > 16) = false := by simp; omega
    rw [h1, h2]
    refine ⟨Ym s 0, fun _ => Xx (j := 0) (by omega), wI (Ym s 0) 97 122, fun _ => rfl, ?_, ?_⟩
    · intro h; simp at h; simp [Ab, h]
    · intro h
      have h3 : wI (Ym s 0) 97 122 = true := by simpa using h
      refine Kz s.size (by omega) (fun j => ∀ i, i < j → D3 (Ym s i) = true) (fun i hi => absurd hi (by omega)) ?_ ?_
      · intro j hj hI X hX
        refine ⟨Ym s j, Xx hj, wI (Ym s j) 48 57, fun _ => rfl, ?_, ?_⟩
        · intro hb; refine B8 hj ?_; simp at hb; simp [D3, hb]
        · intro hb; refine hX fun i hi => ?_
          by_cases e : i = j
          · subst e; unfold D3; revert hb; cases wI (Ym s i) 97 122 <;> cases wI (Ym s i) 48 57 <;> simp <;> grind
          · exact hI i (by omega)
      · intro hI; exact B7 hz h3 hI
  · refine ⟨0, ?_, false, ?_, ?_, ?_⟩
    · intro h; simp at h; omega
    · intro h; simp at h; omega
    · intro h; simp [Ab, hz]
    · intro h; simp at h
theorem V4 (s : ByteArray) : ZQ s (Ab s) := by
  unfold ZQ V1
  simp only [Wl, Zi, ZY, jn, exists_eq_left]
  by_cases hz : 1 ≤ s.size ∧ s.size ≤ 16
  · have h1 : decide ((s.size : Int) < 1) = false := by simp; omega
    have h2 : decide ((s.size : Int) > 16) = false := by simp; omega
    rw [h1, h2]
    refine ⟨Ym s 0, fun _ => Xx (j := 0) (by omega), wI (Ym s 0) 97 122, fun _ => rfl, ?_, ?_⟩
    · intro h; simp at h; simp [Ab, h]
    · intro h
      have h3 : wI (Ym s 0) 97 122 = true := by simpa using h
      refine Kz s.size (by omega) (fun j => ∀ i, i < j → D3 (Ym s i) = true) (fun i hi => absurd hi (by omega)) ?_ ?_
      · intro j hj hI X hX
        refine ⟨Ym s j, Xx hj, Ym s j, fun _ => Xx hj, wI (Ym s j) 48 57, fun _ => rfl, Ym s j, fun _ => Xx hj, Ym s j, fun _ => Xx hj, ?_, ?_⟩
        · intro hb; refine B8 hj ?_; simp at hb; simp [D3, hb]
        · intro hb; refine hX fun i hi => ?_
          by_cases e : i = j
          · subst e; unfold D3; revert hb; cases wI (Ym s i) 97 122 <;> cases wI (Ym s i) 48 57 <;> simp <;> grind
          · exact hI i (by omega)
      · intro hI; exact B7 hz h3 hI
  · refine ⟨0, ?_, false, ?_, ?_, ?_⟩
    · intro h; simp at h; omega
    · intro h; simp at h; omega
    · intro h; simp [Ab, hz]
    · intro h; simp at h
theorem Jn (s : ByteArray) : Zy s (if Ab s = true then 0 else 6) := by
  refine ⟨Ab s, Wm s, ?_, ?_⟩ <;> intro h <;> simp at h <;> simp [h]
def AC (x : Qv) : Int := if ¬ (1 ≤ x.fu.size ∧ x.fu.size ≤ 32) then 7 else if ¬ (1 ≤ x.fa1 ∧ x.fa1 ≤ 4294967295) then 5 else 0
theorem VV (x : Qv) : Zs x (AC x) := by
  unfold Zs Km AC
  simp only [Xk, Zi, ZY, exists_eq_left]
  by_cases h : 1 ≤ x.fu.size ∧ x.fu.size ≤ 32 <;> simp [h]; grind
theorem Xa (x : Qv) : Zd x (AC x) := by
  unfold Zd Kx AC
  simp only [XX, Zi, ZY, exists_eq_left]
  by_cases h : 1 ≤ x.fu.size ∧ x.fu.size ≤ 32 <;> simp [h]; grind
def Xb {α : Type} (f : α → Int) : List α → Int
  | [] => 0
  | x :: r => if f x ≠ 0 then f x else Xb f r
theorem CL {α : Type} {f : α → Int} {l : List α} (h : ∀ (j : Nat) x, l[j]? = some x → f x = 0) : Xb f l = 0 := by
  induction l with
  | nil => rfl
  | cons x r ih => simp [Xb, h 0 x rfl]; exact ih fun j x hx => h (j + 1) x (by simpa using hx)
theorem YQ {α : Type} {f : α → Int} {l : List α} {j : Nat} {x : α} (hx : l[j]? = some x) (hn : f x ≠ 0) (h : ∀ i, i < j → ∀ y, l[i]? = some y → f y = 0) : Xb f l = f x := by
  induction l generalizing j with
  | nil => simp at hx
  | cons z r ih =>
    cases j with
    | zero => simp at hx; subst hx; simp [Xb, hn]
    | succ j =>
      simp [Xb, h 0 (by omega) z rfl]
      exact ih (by simpa using hx) fun i hi y hy => h (i + 1) (by omega) y (by simpa using hy)
theorem XY {α : Type} {l : List α} (hl : l.length ≤ 4611686018427387904) {B : (Int → Prop) → Int → Prop} {J : Prop} {f : α → Int}
    (hB : ∀ (j : Nat) x, l[j]? = some x → (∀ i, i < j → ∀ y, l[i]? = some y → f y = 0) → ∀ X : Int → Prop, (f x = 0 → X (IntKind.i64.wrap ((j : Int) + 1))) → B X (j : Int)) (hJ : Xb f l = 0 → J) :
    lp (fun X s => (decide (s < (l.length : Int)) = true → B X s) ∧ (decide (s < (l.length : Int)) = false → J)) 0 := by
  refine Kz l.length hl (fun j => ∀ i, i < j → ∀ y, l[i]? = some y → f y = 0) (fun i hi => absurd hi (by omega)) ?_ ?_
  · intro j hj hI X hX
    obtain ⟨x, hx⟩ : ∃ x, l[j]? = some x := ⟨l[j], by simp [hj]⟩
    refine hB j x hx hI X fun h0 => hX fun i hi y hy => ?_
    by_cases e : i = j
    · subst e; rw [hx] at hy; cases hy; exact h0
    · exact hI i (by omega) y hy
  · intro hI
    refine hJ (CL fun j x hx => hI j ?_ x hx)
    rw [List.getElem?_eq_some_iff] at hx; exact hx.1
def BI (s : ByteArray) : Int := if Ab s = true then 0 else 6
def AD (l : List ByteArray) : Int := if ¬ (1 ≤ l.length ∧ l.length ≤ 16) then 5 else Xb BI l
def AE (l : List Qv) : Int := if ¬ (1 ≤ l.length ∧ l.length ≤ 64) then 5 else Xb AC l
theorem Yn (l : List ByteArray) : ZS l (AD l) := by
  unfold ZS Ji
  simp only [Ky, exists_eq_left, jn]
  by_cases hz : 1 ≤ l.length ∧ l.length ≤ 16
  · have e : ((1 : Int) ≤ l.length ∧ (l.length : Int) ≤ 16) := by omega
    rw [if_pos e]
    refine ⟨fun h => by simp at h, fun _ => ?_⟩
    refine XY (f := BI) (by omega) ?_ ?_
    · intro j x hx hb X hX
      refine ⟨x, KP rfl hx, BI x, Jn x, fun h => ?_, fun h => hX (by simpa using h)⟩
      have hn : BI x ≠ 0 := by simpa using h
      simp only [AD, hz, not_true, and_self, if_false]; exact YQ hx hn hb
    · intro h; simp [AD, hz, h]
  · have e : ¬ ((1 : Int) ≤ l.length ∧ (l.length : Int) ≤ 16) := by omega
    rw [if_neg e]
    exact ⟨fun _ => by simp [AD, hz], fun h => by simp at h⟩
theorem XZ (l : List Qv) : ZM l (AE l) := by
  unfold ZM KW
  simp only [Ky, exists_eq_left, jn]
  by_cases hz : 1 ≤ l.length ∧ l.length ≤ 64
  · have e : ((1 : Int) ≤ l.length ∧ (l.length : Int) ≤ 64) := by omega
    rw [if_pos e]
    refine ⟨fun h => by simp at h, fun _ => ?_⟩
    refine XY (f := AC) (by omega) ?_ ?_
    · intro j x hx hb X hX
      refine ⟨x, KP rfl hx, AC x, VV x, fun h => ?_, fun h => hX (by simpa using h)⟩
      have hn : AC x ≠ 0 := by simpa using h
      simp only [AE, hz, not_true, and_self, if_false]; exact YQ hx hn hb
    · intro h; simp [AE, hz, h]
  · have e : ¬ ((1 : Int) ≤ l.length ∧ (l.length : Int) ≤ 64) := by omega
    rw [if_neg e]
    exact ⟨fun _ => by simp [AE, hz], fun h => by simp at h⟩
theorem Zn (x : Int) (l : List Int) (hl : l.length ≤ 100) : QV x l (l.contains x) := by
  unfold QV Xt
  simp only [jn]
  refine XY (f := fun y => if y = x then 1 else 0) (by omega) ?_ ?_
  · intro j y hy hb X hX
    refine ⟨y, KP rfl hy, fun h => ?_, fun h => hX (by simp at h; simp [h])⟩
    simp at h; subst h; simp; exact List.mem_of_getElem? hy
  · intro h
    cases hc : l.contains x with
    | false => rfl
    | true =>
      exfalso
      have hm : x ∈ l := by simpa using hc
      obtain ⟨j, hj⟩ := List.getElem?_of_mem hm
      have : ∀ (l : List Int), x ∈ l → Xb (fun y => if y = x then 1 else 0) l ≠ 0 := by
        intro l; induction l with
        | nil => simp
        | cons a r ih => intro h; unfold Xb; by_cases e : a = x <;> simp [e]; have := ih (by simpa [Ne.symm e] using h); simpa using this
      exact this l hm h
def Vw (k : Int) : Z7 := Z7.mk ([1, 2, 3, 5, 6, 7, 8, 16].contains k) ([3, 7, 8].contains k) ([9].contains k) ([1].contains k) ([6].contains k) ([6, 7, 8].contains k) ([8].contains k) ([10, 11, 12, 15].contains k) ([10, 12, 15].contains k) ([13, 14].contains k) ([13].contains k) ([5, 10].contains k) ([16].contains k)
theorem Up (k : Int) : J0 k (Vw k) := by
  unfold J0 Vr
  exact ⟨_, Zn _ _ (by simp), _, Zn _ _ (by simp), _, Zn _ _ (by simp), _, Zn _ _ (by simp), _, Zn _ _ (by simp), _, Zn _ _ (by simp), _, Zn _ _ (by simp), _, Zn _ _ (by simp), _, Zn _ _ (by simp), _, Zn _ _ (by simp), _, Zn _ _ (by simp), _, Zn _ _ (by simp), _, Zn _ _ (by simp), rfl⟩
def Yo (x : Qu) (a b : Bool) : Int := if a = true ∧ AD x.fj ≠ 0 then AD x.fj else if b = true then AE x.fp else 0
theorem Xl (x : Qu) (a b : Bool) : Zw x a b (Yo x a b) := by
  have part2 : ((b = true → ∃ v, QH (x.fp.length : Int) 1 64 v ∧ ((!v) = true → AE x.fp = 5) ∧ ((!v) = false → Xb AC x.fp = AE x.fp))) := by
    intro hb
    refine ⟨_, JH.2 rfl, ?_, ?_⟩ <;> intro h <;> simp [wI] at h <;> simp [AE] <;> omega
  unfold Zw V3
  simp only [JH, exists_eq_left, jn]
  have rest : (a = true → AD x.fj = 0) → (b = true →
          (((!wI (↑x.fp.length) 1 64) = true → Yo x a b = 5) ∧
            ((!wI (↑x.fp.length) 1 64) = false → lp (fun X12 s12 => (decide (s12 < (x.fp.length : Int)) = true →
                      ∃ v15, ix x.fp s12 v15 ∧ ∃ v16, Zd v15 v16 ∧ ((v16 != 0) = true → Yo x a b = v16) ∧ ((v16 != 0) = false → X12 (IntKind.i64.wrap (s12 + 1)))) ∧
                    (decide (s12 < (x.fp.length : Int)) = false → Yo x a b = 0)) 0))) ∧ (b = false → Yo x a b = 0) := by
    intro ha
    have e0 : Yo x a b = if b = true then AE x.fp else 0 := by
      unfold Yo; rw [if_neg (fun h => h.2 (ha h.1))]
    rw [e0]
    refine ⟨fun hb => ?_, fun hb => by simp [hb]⟩
    rw [if_pos hb]
    by_cases hz : 1 ≤ x.fp.length ∧ x.fp.length ≤ 64
    · have e : wI (x.fp.length : Int) 1 64 = true := by simp [wI]; omega
      refine ⟨fun h => by simp [e] at h, fun _ => ?_⟩
      refine XY (f := AC) (by omega) ?_ ?_
      · intro j y hy hbb X hX
        refine ⟨y, KP rfl hy, AC y, Xa y, fun h => ?_, fun h => hX (by simpa using h)⟩
        have hn : AC y ≠ 0 := by simpa using h
        simp only [AE, hz, not_true, and_self, if_false]; exact YQ hy hn hbb
      · intro h; simp [AE, hz, h]
    · have e : wI (x.fp.length : Int) 1 64 = false := by simp [wI]; omega
      exact ⟨fun _ => by simp [AE, hz], fun h => by simp [e] at h⟩
  refine ⟨fun ha => ?_, fun ha => rest (by simp [ha])⟩
  by_cases hz : 1 ≤ x.fj.length ∧ x.fj.length ≤ 16
  · have e : wI (x.fj.length : Int) 1 16 = true := by simp [wI]; omega
    refine ⟨fun h => by simp [e] at h, fun _ => ?_⟩
    refine XY (f := BI) (by omega) ?_ ?_
    · intro j y hy hbb X hX
      refine ⟨y, KP rfl hy, Ab y, V4 y, fun h => ?_, fun h => hX (by simp at h; simp [BI, h])⟩
      have hn : BI y = 6 := by simp at h; simp [BI, h]
      have : AD x.fj = 6 := by
        simp only [AD, hz, not_true, and_self, if_false]; rw [YQ hy (by simp [hn]) hbb, hn]
      simp [Yo, ha, this]
    · intro h
      exact rest fun _ => by simp [AD, hz, h]
  · have e : wI (x.fj.length : Int) 1 16 = false := by simp [wI]; omega
    have : AD x.fj = 5 := by simp [AD, hz]
    exact ⟨fun _ => by simp [Yo, ha, this], fun h => by simp [e] at h⟩
end Go.Proofs.Ytmkhonigljegbaa
namespace Go.Proofs.Ytmkhonigljegbaa
open Go.RowKit Go.ChangeShapes Go.WideShapes
theorem Es {α : Type} {l : List α} {n : Int} (h0 : 0 ≤ n) (h1 : n < l.length) : ∃ x, ix l n x ∧ l[n.toNat]? = some x := by
  have : n.toNat < l.length := by omega
  exact ⟨l[n.toNat], ⟨h0, by simp [this]⟩, by simp [this]⟩
theorem VW (l : List Int) : (strOfNums l).size = l.length := by simp [strOfNums, ByteArray.size]
theorem K0 {α : Type} {l : List α} {j : Nat} (h : j < l.length) : ix l (j : Int) l[j] := ⟨by omega, by simp [h]⟩
def DI (a b : Q4) : Bool := a.fa != -1 && decide (a.fa < b.fk)
theorem K8 (a b : Q4) : QT a b (DI a b) := by
  unfold QT KL
  simp only [Zi]; rfl
theorem Vi (a b : Q4) : ZA a b (DI a b) := by
  unfold ZA Jm
  simp only [Zi]; rfl
def E4 {α : Type} (l : List α) (x : Int) : Prop := 0 ≤ x ∧ x < l.length
def preB (l : List Q4) (a b : Int) : Bool := match l[a.toNat]?, l[b.toNat]? with
  | some x, some y => DI x y
  | _, _ => false
def DJ (l : List Q4) (o : List Int) : Prop :=
  (∀ (j : Nat) (a : Int), o[j]? = some a → E4 l a) ∧ ∀ (j k : Nat) (a b : Int), k < j → o[j]? = some a → o[k]? = some b → a ≠ b ∧ preB l a b = false
theorem Yp {l : List Q4} {a : Int} (h : E4 l a) : ∃ x, ix l a x ∧ l[a.toNat]? = some x := Es h.1 h.2
theorem Uq {l : List Q4} {a b : Int} {x y : Q4} (ha : l[a.toNat]? = some x) (hb : l[b.toNat]? = some y) : preB l a b = DI x y := by
  unfold preB; rw [ha, hb]
theorem Wn {α : Type} {l : List α} {j : Nat} {a : α} (h : l[j]? = some a) : j < l.length := by
  rcases Nat.lt_or_ge j l.length with c | c
  · exact c
  · rw [List.getElem?_eq_none c] at h; cases h
theorem K9 (l : List Q4) (o : List Int) (hl : l.length ≤ 1000000000) (ho : o.length ≤ 1000000000) : ∃ r, QU l o r ∧ (r = true ↔ DJ l o) := by
  apply Xs
  unfold Zl
  simp only [jn, ZY]
  refine We (I := fun n s => ∃ j : Nat, j ≤ o.length ∧ n = o.length - j ∧ s = ((j : Int), o.take j) ∧ (∀ (i : Nat) (a : Int), i < j → o[i]? = some a → E4 l a) ∧ ∀ (i k : Nat) (a b : Int), k < i → i < j → o[i]? = some a → o[k]? = some b → a ≠ b) ?_ (k := o.length) ⟨0, by omega, by omega, rfl, fun i a h => by omega, fun i k a b _ h => by omega⟩
  rintro n s ⟨j, hj, hn, rfl, h1, h2⟩ X hX
  refine ⟨fun c => ?_, fun c => ?_⟩
  · have hj2 : j < o.length := by simpa using c
    have ej : o[j]? = some o[j] := by simp [hj2]
    refine ⟨o[j], K0 hj2, fun c => ?_, fun c => ?_⟩
    · simp only [Bool.or_eq_true, decide_eq_true_eq, List.contains_iff_mem] at c
      refine ⟨fun h => by simp at h, fun h => ?_⟩
      have hr := h.1 j _ ej
      unfold E4 at hr
      rcases c with c | c
      · omega
      · obtain ⟨k, hk, e⟩ := List.mem_iff_getElem.1 c
        simp only [List.length_take] at hk
        rw [List.getElem_take] at e
        exact absurd e.symm (h.2 j k _ _ (by omega) ej (by simp)).1
    · simp only [Bool.or_eq_false_iff, decide_eq_false_iff_not] at c
      have cm : ¬ o[j] ∈ o.take j := by have := c.2; rw [← Bool.not_eq_true, List.contains_iff_mem] at this; exact this
      refine ⟨c.2, hX (o.length - (j + 1)) _ (by omega) ⟨j + 1, by omega, rfl, ?_, ?_, ?_⟩⟩
      · rw [YI (by omega), List.take_succ_eq_append_getElem hj2]; rfl
      · intro i a hi ha
        by_cases e : i = j
        · subst e; rw [ej] at ha; cases ha; unfold E4; omega
        · exact h1 i a (by omega) ha
      · intro i k a b hk hi ha hb
        by_cases e : i = j
        · subst e; rw [ej] at ha; cases ha
          intro e2
          refine cm (List.mem_iff_getElem.2 ⟨k, by simp; omega, ?_⟩)
          have := List.getElem?_eq_some_iff.1 hb
          obtain ⟨q, hq⟩ := this
          rw [List.getElem_take, hq, e2]
        · exact h2 i k a b hk (by omega) ha hb
  · have hj2 : j = o.length := by simp at c; omega
    subst hj2
    clear hX
    refine Kz o.length (by omega) (fun j => ∀ (i k : Nat) (a b : Int), k < i → i < j → o[i]? = some a → o[k]? = some b → preB l a b = false) (fun i k a b _ h => by omega) ?_ ?_
    · intro j hj hI Y hY
      have ej : o[j]? = some o[j] := by simp [hj]
      refine ⟨o[j], K0 hj, ⟨by omega, by omega⟩, ?_⟩
      obtain ⟨x, hx, ex⟩ := Yp (h1 j _ hj ej)
      have et : (List.take (Int.toNat (j : Int)) o).length = j := by simp; omega
      rw [et]
      refine Kz j (by omega) (fun q => ∀ (k : Nat) (b : Int), k < q → o[k]? = some b → preB l o[j] b = false) (fun k b h => by omega) ?_ ?_
      · intro k hk hK Z hZ
        have hk2 : k < o.length := by omega
        have ek : o[k]? = some o[k] := by simp [hk2]
        obtain ⟨y, hy, ey⟩ := Yp (h1 k _ hk2 ek)
        refine ⟨o[k], ?_, x, hx, y, hy, _, K8 x y, fun c => ⟨fun h => by simp at h, fun h => ?_⟩, fun c => hZ fun k' b hk' hb => ?_⟩
        · refine KP rfl ?_
          rw [X1, List.getElem?_take_of_lt hk]; exact ek
        · have := (h.2 j k _ _ hk ej ek).2
          rw [Uq ex ey, c] at this; cases this
        · by_cases e : k' = k
          · subst e; rw [ek] at hb; cases hb; rw [Uq ex ey, c]
          · exact hK k' b (by omega) hb
      · intro hK
        refine hY fun i k a b hk hi ha hb => ?_
        by_cases e : i = j
        · subst e; rw [ej] at ha; cases ha; exact hK k b hk hb
        · exact hI i k a b hk (by omega) ha hb
    · intro hI
      refine ⟨fun _ => ⟨fun j a ha => h1 j a (Wn ha) ha, fun j k a b hk ha hb => ⟨h2 j k a b hk (Wn ha) ha hb, hI j k a b hk (Wn ha) ha hb⟩⟩, fun _ => trivial⟩
theorem Vj (l : List Q4) (o : List Int) (hl : l.length ≤ 1000000000) (ho : o.length ≤ 1000000000) : ∃ r, ZC l o r ∧ (r = true ↔ DJ l o) := by
  apply Yk
  unfold ZB
  simp only [jn, ZY]
  refine Kz o.length (by omega) (fun j => ∀ (i : Nat) (a : Int), i < j → o[i]? = some a → E4 l a) (fun i a h => by omega) ?_ ?_
  · intro j hj h1 X hX
    have ej : o[j]? = some o[j] := by simp [hj]
    refine ⟨o[j], K0 hj, o[j], fun _ => K0 hj, fun c => ?_, fun c => ?_⟩
    · simp only [Bool.or_eq_true, decide_eq_true_eq] at c
      refine ⟨fun h => by simp at h, fun h => ?_⟩
      have hr := h.1 j _ ej
      unfold E4 at hr; omega
    · simp only [Bool.or_eq_false_iff, decide_eq_false_iff_not] at c
      refine hX fun i a hi ha => ?_
      by_cases e : i = j
      · subst e; rw [ej] at ha; cases ha; unfold E4; omega
      · exact h1 i a (by omega) ha
  · intro h1
    refine Kz o.length (by omega) (fun j => ∀ (i k : Nat) (a b : Int), k < i → i < j → o[i]? = some a → o[k]? = some b → a ≠ b ∧ preB l a b = false) (fun i k a b _ h => by omega) ?_ ?_
    · intro j hj hI Y hY
      have ej : o[j]? = some o[j] := by simp [hj]
      obtain ⟨x, hx, ex⟩ := Yp (h1 j _ hj ej)
      refine Kz j (by omega) (fun q => ∀ (k : Nat) (b : Int), k < q → o[k]? = some b → o[j] ≠ b ∧ preB l o[j] b = false) (fun k b h => by omega) ?_ ?_
      · intro k hk hK Z hZ
        have hk2 : k < o.length := by omega
        have ek : o[k]? = some o[k] := by simp [hk2]
        obtain ⟨y, hy, ey⟩ := Yp (h1 k _ hk2 ek)
        refine ⟨o[j], K0 hj, o[k], K0 hk2, o[j], fun _ => K0 hj, x, fun _ => hx, o[k], fun _ => K0 hk2, y, fun _ => hy, _, fun _ => Vi x y, fun c => ⟨fun h => by simp at h, fun h => ?_⟩, fun c => hZ fun k' b hk' hb => ?_⟩
        · have h3 := h.2 j k _ _ hk ej ek
          rw [Uq ex ey] at h3
          simp only [Bool.or_eq_true, beq_iff_eq] at c
          rcases c with c | c
          · exact absurd c h3.1
          · rw [h3.2] at c; cases c
        · by_cases e : k' = k
          · subst e; rw [ek] at hb; cases hb; rw [Uq ex ey]
            simp only [Bool.or_eq_false_iff, beq_eq_false_iff_ne] at c
            exact c
          · exact hK k' b (by omega) hb
      · intro hK
        refine hY fun i k a b hk hi ha hb => ?_
        by_cases e : i = j
        · subst e; rw [ej] at ha; cases ha; exact hK k b hk hb
        · exact hI i k a b hk (by omega) ha hb
    · intro hI
      exact ⟨fun _ => ⟨fun j a ha => h1 j a (Wn ha) ha, fun j k a b hk ha hb => hI j k a b hk (Wn ha) ha hb⟩, fun _ => trivial⟩
theorem Ur (a b : List Int) (ha : a.length ≤ 1000000000) : ∃ r, Ja a b r ∧ (a = b → r = true) := by
  apply Un
  unfold Ku
  simp only [jn]
  refine ⟨fun c => ?_, fun c => ?_⟩
  · intro e; subst e; simp at c
  · have hlen : a.length = b.length := by simp at c; omega
    refine Kz a.length (by omega) (fun _ => True) trivial ?_ (fun _ _ => trivial)
    intro j hj _ X hX
    refine ⟨a[j], K0 hj, b[j]'(by omega), K0 (by omega), fun c => ?_, fun _ => hX trivial⟩
    intro e; subst e; simp at c
def Wo (out : List Int) (i : Int) (p : Nat) : List Int := out.take p ++ i :: out.drop p
theorem B9 {out : List Int} {x : Int} {p : Nat} (h : out[p]? = some x) : ∃ A B, A.length = p ∧ out = A ++ x :: B := by
  obtain ⟨hp, e⟩ := List.getElem?_eq_some_iff.1 h
  refine ⟨out.take p, out.drop (p + 1), by simp; omega, ?_⟩
  rw [← e, List.getElem_cons_drop, List.take_append_drop]
theorem Us (out : List Int) (i : Int) (p : Nat) : (Wo out i p).length = out.length + 1 := by
  simp [Wo]; omega
theorem A6 {out : List Int} {p : Nat} (i : Int) (h : p ≤ out.length) : (Wo out i p)[p]? = some i := by
  unfold Wo
  rw [List.getElem?_append_right (by simp; omega)]
  simp [Nat.min_eq_left h]
theorem U0 {out : List Int} {p : Nat} {x : Int} (i : Int) (h : out[p]? = some x) : (Wo out i (p + 1))[p]? = some x := by
  obtain ⟨A, B, rfl, rfl⟩ := B9 h
  simp [Wo, List.take_append, List.drop_append]
theorem E5 {out : List Int} {p : Nat} {x : Int} (i : Int) (h : out[p]? = some x) : ((Wo out i (p + 1)).set p i).set (p + 1) x = Wo out i p := by
  obtain ⟨A, B, rfl, rfl⟩ := B9 h
  simp [Wo, List.take_append, List.drop_append, List.set_append, List.take_of_length_le, List.drop_eq_nil_of_le]
theorem Et {out : List Int} {p : Nat} {x : Int} (i : Int) (h : out[p]? = some x) : ((Wo out i (p + 1)).set (p + 1) x).set p i = Wo out i p := by
  rw [List.set_comm _ _ (by omega)]; exact E5 i h
theorem mid_end (out : List Int) (i : Int) : out ++ [i] = Wo out i out.length := by simp [Wo]
theorem DK {out : List Int} {i y : Int} {p : Nat} (h : y ∈ Wo out i p) : y = i ∨ y ∈ out := by
  unfold Wo at h
  rcases List.mem_append.1 h with h | h
  · exact .inr (List.mem_of_mem_take h)
  · rcases List.mem_cons.1 h with h | h
    · exact .inl h
    · exact .inr (List.mem_of_mem_drop h)
def CM (l : List Q4) (x : Int) : Int := match l[x.toNat]? with
  | some r => r.fb
  | none => 0
def JQ (l : List Q4) (out : List Int) (y : Int) : Nat → Nat
  | 0 => 0
  | p + 1 => match out[p]? with
    | some x => if CM l x > y then JQ l out y p else p + 1
    | none => p + 1
def Eu (r : Q4) : Bool := r.fb == -1 || r.fh.fa0 == 14
def Ju (l : List Q4) : Nat → List Int
  | 0 => []
  | k + 1 => match l[k]? with
    | some r => if Eu r = true then Ju l k else Wo (Ju l k) k (JQ l (Ju l k) r.fb (Ju l k).length)
    | none => Ju l k
theorem Wp (l : List Q4) (k : Nat) : (Ju l k).length ≤ k := by
  induction k with
  | zero => simp [Ju]
  | succ k ih =>
    unfold Ju
    split
    · split
      · omega
      · rw [Us]; omega
    · omega
theorem A7 (l : List Q4) (k : Nat) : ∀ x ∈ Ju l k, 0 ≤ x ∧ x < k := by
  induction k with
  | zero => intro x hx; cases hx
  | succ k ih =>
    intro x hx
    unfold Ju at hx
    split at hx
    · split at hx
      · have := ih x hx; omega
      · rcases DK hx with rfl | h
        · omega
        · have := ih x h; omega
    · have := ih x hx; omega
theorem A8 {l : List Q4} {k : Nat} {r : Q4} (h : l[k]? = some r) (hs : Eu r = true) : Ju l (k + 1) = Ju l k := by
  rw [Ju, h]; exact if_pos hs
theorem A9 {l : List Q4} {k : Nat} {r : Q4} (h : l[k]? = some r) (hs : Eu r = false) : Ju l (k + 1) = Wo (Ju l k) k (JQ l (Ju l k) r.fb (Ju l k).length) := by
  rw [Ju, h]; exact if_neg (by simp [hs])
theorem Ba {l : List Q4} {out : List Int} {x y : Int} {p : Nat} (h : out[p]? = some x) (hx : CM l x > y) : JQ l out y (p + 1) = JQ l out y p := by
  rw [JQ, h]; exact if_pos hx
theorem Bb {l : List Q4} {out : List Int} {x y : Int} {p : Nat} (h : out[p]? = some x) (hx : ¬ CM l x > y) : JQ l out y (p + 1) = p + 1 := by
  rw [JQ, h]; exact if_neg hx
theorem Ut {l : List Q4} {x : Int} {r : Q4} (h : l[x.toNat]? = some r) : CM l x = r.fb := by unfold CM; rw [h]
theorem at_mem {α : Type} {l : List α} {j : Nat} {a : α} (h : l[j]? = some a) : a ∈ l := List.mem_of_getElem? h
theorem VC (l : List Q4) (hl : l.length ≤ 1000000) : ZI l (Ju l l.length) := by
  unfold ZI Jr
  simp only [jn, ZY, Zi]
  refine We (I := fun n s => ∃ k : Nat, k ≤ l.length ∧ n = l.length - k ∧ s = (Ju l k, (k : Int))) ?_ (k := l.length) ⟨0, by omega, by omega, rfl⟩
  rintro n s ⟨k, hk, hn, rfl⟩ X hX
  refine ⟨fun c => ?_, fun c => ?_⟩
  · have hk2 : k < l.length := by simpa using c
    have ek : l[k]? = some l[k] := by simp [hk2]
    refine ⟨l[k], K0 hk2, fun c => ?_, fun c => ?_⟩
    · refine hX (l.length - (k + 1)) _ (by omega) ⟨k + 1, by omega, rfl, ?_⟩
      rw [A8 ek c, YI (by omega)]; simp
    · have hlen := Wp l k
      have hmem := A7 l k
      have e2 := A9 ek c
      refine ⟨by simp only [List.length_cons, List.length_nil]; omega, ?_⟩
      generalize ho : Ju l k = out at *
      simp only [mid_end out (k : Int)]
      have fin : ∀ p, JQ l out l[k].fb out.length = p → X (Wo out k p, IntKind.i64.wrap ((k : Int) + 1)) := by
        rintro p rfl
        refine hX (l.length - (k + 1)) _ (by omega) ⟨k + 1, by omega, rfl, ?_⟩
        rw [e2, YI (by omega)]; simp
      refine We (I := fun n s => n ≤ out.length ∧ s = (Wo out k n, (n : Int)) ∧ JQ l out l[k].fb out.length = JQ l out l[k].fb n) ?_ (k := out.length) ⟨by omega, ?_, rfl⟩
      · rintro p s ⟨hp, rfl, hst⟩ Y hY
        cases p with
        | zero =>
          refine ⟨0, fun c => by simp at c, l[k], fun c => by simp at c, fun c => by simp at c, fun _ => fin 0 hst⟩
        | succ p =>
          have ex : out[p]? = some (out[p]'(by omega)) := by simp
          generalize out[p]'(by omega) = x at ex
          have hx := hmem x (at_mem ex)
          obtain ⟨r, hr, er⟩ := Yp (l := l) (a := x) ⟨by omega, by omega⟩
          have w1 : IntKind.i64.wrap (((p + 1 : Nat) : Int) - 1) = (p : Int) := by rw [YI (by omega)]; omega
          simp only [w1]
          refine ⟨x, fun _ => KP rfl (U0 _ ex), r, fun _ => hr, fun c => ?_, fun c => ?_⟩
          · have c2 : r.fb > l[k].fb := by simp at c; omega
            have m1 : ((Wo out k (p + 1)).set p k)[p + 1]? = some (k : Int) := by
              rw [List.getElem?_set_ne (by omega)]; exact A6 _ hp
            refine ⟨k, KP rfl (A6 _ hp), x, KP rfl (U0 _ ex), x, KP rfl (U0 _ ex), k, KP rfl m1, ?_⟩
            have s1 := E5 (k : Int) ex
            simp only [X1]
            rw [s1]
            refine hY p _ (by omega) ⟨by omega, rfl, ?_⟩
            rw [hst, Ba ex (by rw [Ut er]; exact c2)]
          · have c2 : ¬ r.fb > l[k].fb := by
              intro h; simp at c; omega
            exact fin (p + 1) (by rw [hst, Bb ex (by rw [Ut er]; exact c2)])
      · rw [Us, YI (by omega)]; congr 1; omega
  · have : k = l.length := by simp at c; omega
    rw [this]
theorem WJ (l : List Q4) (hl : l.length ≤ 1000000) : KE l (Ju l l.length) := by
  unfold KE V0
  simp only [jn, ZY, Zi]
  refine We (I := fun n s => ∃ k : Nat, k ≤ l.length ∧ n = l.length - k ∧ s = (Ju l k, (k : Int))) ?_ (k := l.length) ⟨0, by omega, by omega, rfl⟩
  rintro n s ⟨k, hk, hn, rfl⟩ X hX
  refine ⟨fun c => ?_, fun c => ?_⟩
  · have hk2 : k < l.length := by simpa using c
    have ek : l[k]? = some l[k] := by simp [hk2]
    refine ⟨l[k], K0 hk2, l[k], fun _ => K0 hk2, fun c => ?_, fun c => ?_⟩
    · refine hX (l.length - (k + 1)) _ (by omega) ⟨k + 1, by omega, rfl, ?_⟩
      rw [A8 ek c, YI (by omega)]; simp
    · have hlen := Wp l k
      have hmem := A7 l k
      have e2 := A9 ek c
      refine ⟨by simp only [List.length_cons, List.length_nil]; omega, ?_⟩
      generalize ho : Ju l k = out at *
      simp only [mid_end out (k : Int)]
      have fin : ∀ p, JQ l out l[k].fb out.length = p → X (Wo out k p, IntKind.i64.wrap ((k : Int) + 1)) := by
        rintro p rfl
        refine hX (l.length - (k + 1)) _ (by omega) ⟨k + 1, by omega, rfl, ?_⟩
        rw [e2, YI (by omega)]; simp
      refine We (I := fun n s => n ≤ out.length ∧ s = (Wo out k n, (n : Int)) ∧ JQ l out l[k].fb out.length = JQ l out l[k].fb n) ?_ (k := out.length) ⟨by omega, ?_, rfl⟩
      · rintro p s ⟨hp, rfl, hst⟩ Y hY
        cases p with
        | zero =>
          refine ⟨0, fun c => by simp at c, l[k], fun c => by simp at c, 0, fun c => by simp at c, l[k], fun c => by simp at c, fun c => by simp at c, fun _ => fin 0 hst⟩
        | succ p =>
          have ex : out[p]? = some (out[p]'(by omega)) := by simp
          generalize out[p]'(by omega) = x at ex
          have hx := hmem x (at_mem ex)
          obtain ⟨r, hr, er⟩ := Yp (l := l) (a := x) ⟨by omega, by omega⟩
          have w1 : IntKind.i64.wrap (((p + 1 : Nat) : Int) - 1) = (p : Int) := by rw [YI (by omega)]; omega
          simp only [w1]
          refine ⟨k, fun _ => KP rfl (A6 _ hp), l[k], fun _ => K0 hk2, x, fun _ => KP rfl (U0 _ ex), r, fun _ => hr, fun c => ?_, fun c => ?_⟩
          · have c2 : r.fb > l[k].fb := by simp at c; omega
            have m1 : ((Wo out k (p + 1)).set (p + 1) x)[p]? = some x := by
              rw [List.getElem?_set_ne (by omega)]; exact U0 _ ex
            refine ⟨x, KP rfl (U0 _ ex), k, KP rfl (A6 _ hp), k, KP rfl (A6 _ hp), x, ?_, ?_⟩
            · rw [X1]; exact KP rfl m1
            have s1 := Et (k : Int) ex
            simp only [X1]
            rw [s1]
            refine hY p _ (by omega) ⟨by omega, rfl, ?_⟩
            rw [hst, Ba ex (by rw [Ut er]; exact c2)]
          · have c2 : ¬ r.fb > l[k].fb := by
              intro h; simp at c; omega
            exact fin (p + 1) (by rw [hst, Bb ex (by rw [Ut er]; exact c2)])
      · rw [Us, YI (by omega)]; congr 1; omega
  · have : k = l.length := by simp at c; omega
    rw [this]
def YL (n lo hi : Int) : Int := if lo ≤ n ∧ n ≤ hi then 0 else 5
def AF (n m : Int) : Int := if n > m then 11 else 0
def QD (x : Qu) (f : Nat) : Int :=
  match f with
  | 0 => BI x.fa7
  | 1 => BI x.fa2
  | 2 => AD x.fj
  | 3 => VH x.fg.fc x.fg.f3 x.fg.fy x.fg.fa3
  | 4 => AE x.fp
  | 5 => AF x.f6.length 64
  | 6 => YL x.fq 1 1048576
  | 7 => YL x.f5 1 1048576
  | 8 => YL x.fo 0 3
  | 9 => YL x.fa5 0 15
  | 10 => YL x.f8 0 3
  | 11 => YL x.fi 0 32
  | 12 => A5 x.ff.fc x.ff.fu x.ff.fi x.ff.fa4 x.ff.f7
  | _ => AF x.fv.length 65536
theorem Ze (n lo hi : Int) : Qz n lo hi (YL n lo hi) := Ky.2 rfl
theorem JR (l : List Int) (m : Int) : Zu l m (AF l.length m) := by
  unfold Zu KX AF
  by_cases h : (l.length : Int) > m <;> simp [h]
theorem Y0 (x : Qu) {f : Nat} (hf : f < 14) : ZN x (f : Int) (QD x f) := by
  unfold ZN KY
  rcases E3 hf with rfl | rfl | rfl | rfl | rfl | rfl | rfl | rfl | rfl | rfl | rfl | rfl | rfl | rfl
  · simp; exact Jn x.fa7
  · simp; exact Jn x.fa2
  · simp; exact Yn x.fj
  · simp; exact Vh x.fg
  · simp; exact XZ x.fp
  · simp; exact JR x.f6 64
  · simp; exact Ze x.fq 1 1048576
  · simp; exact Ze x.f5 1 1048576
  · simp; exact Ze x.fo 0 3
  · simp; exact Ze x.fa5 0 15
  · simp; exact Ze x.f8 0 3
  · simp; exact Ze x.fi 0 32
  · simp; exact Yl x.ff
  · simp; exact JR x.fv 65536
theorem Bc {α : Type} {f : α → Int} (h : ∀ x, 0 ≤ f x ∧ f x ≤ 18) (l : List α) : 0 ≤ Xb f l ∧ Xb f l ≤ 18 := by
  induction l with
  | nil => simp [Xb]
  | cons a r ih => (unfold Xb; split; exact h a; exact ih)
theorem DL (x : Qu) (f : Nat) : 0 ≤ QD x f ∧ QD x f ≤ 18 := by
  have hn : ∀ s, 0 ≤ BI s ∧ BI s ≤ 18 := by intro s; unfold BI; split <;> decide
  have hi : ∀ s, 0 ≤ AC s ∧ AC s ≤ 18 := by
      intro s; unfold AC; repeat' split
      all_goals decide
  have hs : ∀ n m, 0 ≤ AF n m ∧ AF n m ≤ 18 := by intro n m; unfold AF; split <;> decide
  have hr : ∀ n a b, 0 ≤ YL n a b ∧ YL n a b ≤ 18 := by intro n a b; unfold YL; split <;> decide
  have hl := Bc hn
  have hl2 := Bc hi
  unfold QD
  split
  · exact hn _
  · exact hn _
  · unfold AD; (split; decide; exact hl _)
  · unfold VH; repeat' split
    all_goals decide
  · unfold AE; (split; decide; exact hl2 _)
  · exact hs _ _
  · exact hr _ _ _
  · exact hr _ _ _
  · exact hr _ _ _
  · exact hr _ _ _
  · exact hr _ _ _
  · exact hr _ _ _
  · unfold A5; repeat' split
    all_goals decide
  · exact hs _ _
theorem Ev {L : List Int} (h : ∀ e ∈ L, 0 ≤ e ∧ e ≤ 18) : 0 ≤ Vp L ∧ Vp L ≤ 18 := by
  induction L with
  | nil => simp [Vp]
  | cons a r ih => (unfold Vp; split; exact h a (by simp); exact ih fun e he => h e (by simp [he]))
def V5 (x : Qu) : Int := Uk (WF x) (QD x)
theorem DN (x : Qu) : 0 ≤ V5 x ∧ V5 x ≤ 18 := by
  have h : 0 ≤ Vp (VE (WF x).kind (QD x)) ∧ Vp (VE (WF x).kind (QD x)) ≤ 18 := by
    refine Ev fun e he => ?_
    unfold VE at he
    obtain ⟨f, _, rfl⟩ := List.mem_map.1 he
    (split; exact DL _ _; decide)
  unfold V5 Uk
  split
  · decide
  · split
    · exact h
    · split <;> decide
theorem VX (x : Qu) : Ko x (V5 x) := by
  refine ⟨?_, QD x, fun f hf _ => Y0 x hf, rfl⟩
  have h := DN x
  simp [Lit.wf, IntKind.min, IntKind.max, IntKind.signed, IntKind.bits]; omega
theorem BJ {k : Int} (hk : Kn k) : [Kc k 0, Kc k 1, Kc k 2, Kc k 3, Kc k 4, Kc k 5, Kc k 6, Kc k 7, Kc k 8, Kc k 9, Kc k 10, Kc k 11, Kc k 12, Kc k 13] = [(Vw k).fe0, (Vw k).fe1, (Vw k).fe2, (Vw k).fe3, (Vw k).fe4, (Vw k).fe5, (Vw k).fe6, (Vw k).fe6, (Vw k).fe7, (Vw k).fe8, (Vw k).fe9, (Vw k).fe10, (Vw k).fe11, (Vw k).fe12] := by
  rcases Uj hk with rfl | rfl | rfl | rfl | rfl | rfl | rfl | rfl | rfl | rfl | rfl | rfl | rfl | rfl | rfl | rfl | rfl <;> decide
theorem CN {x : Qu} (h : ¬ Kn x.fc) : V5 x = 8 := by unfold V5 Uk; rw [if_pos (by simpa [WF] using h)]
theorem CO {x : Qu} (hk : Kn x.fc) {b0 b1 b2 b3 b4 b5 b6 b7 b8 b9 b10 b11 b12 : Bool} (hu : Vw x.fc = Z7.mk b0 b1 b2 b3 b4 b5 b6 b7 b8 b9 b10 b11 b12) :
    V5 x = if Vp [if b0 = true then QD x 0 else 0, if b1 = true then QD x 1 else 0, if b2 = true then QD x 2 else 0, if b3 = true then QD x 3 else 0, if b4 = true then QD x 4 else 0, if b5 = true then QD x 5 else 0, if b6 = true then QD x 6 else 0, if b6 = true then QD x 7 else 0, if b7 = true then QD x 8 else 0, if b8 = true then QD x 9 else 0, if b9 = true then QD x 10 else 0, if b10 = true then QD x 11 else 0, if b11 = true then QD x 12 else 0, if b12 = true then QD x 13 else 0] ≠ 0 then Vp [if b0 = true then QD x 0 else 0, if b1 = true then QD x 1 else 0, if b2 = true then QD x 2 else 0, if b3 = true then QD x 3 else 0, if b4 = true then QD x 4 else 0, if b5 = true then QD x 5 else 0, if b6 = true then QD x 6 else 0, if b6 = true then QD x 7 else 0, if b7 = true then QD x 8 else 0, if b8 = true then QD x 9 else 0, if b9 = true then QD x 10 else 0, if b10 = true then QD x 11 else 0, if b11 = true then QD x 12 else 0, if b12 = true then QD x 13 else 0]
      else if ((b0 || x.fa7.toList == []) && (b1 || x.fa2.toList == []) && (b2 || decide (x.fj.length = 0)) && (b3 || decide (x.fg.fc = 0 ∧ x.fg.f3 = 0 ∧ x.fg.fy = 0 ∧ x.fg.fa3 = 0)) && (b4 || decide (x.fp.length = 0)) && (b5 || decide (x.f6.length = 0)) && (b6 || decide (x.fq = 0)) && (b6 || decide (x.f5 = 0)) && (b7 || decide (x.fo = 0)) && (b8 || decide (x.fa5 = 0)) && (b9 || decide (x.f8 = 0)) && (b10 || decide (x.fi = 0)) && (b11 || decide (x.ff.fc = 0 ∧ x.ff.fu.toList = [] ∧ x.ff.fi = 0 ∧ x.ff.fa4 = 0 ∧ x.ff.f7 = 0)) && (b12 || decide (x.fv.length = 0))) = true then 0 else 18 := by
  have h := BJ hk
  rw [hu] at h
  simp only [List.cons.injEq, and_true] at h
  obtain ⟨m0, m1, m2, m3, m4, m5, m6, m7, m8, m9, m10, m11, m12, m13⟩ := h
  have r14 : List.range 14 = [0, 1, 2, 3, 4, 5, 6, 7, 8, 9, 10, 11, 12, 13] := by decide
  have e : VE x.fc (QD x) = [if b0 = true then QD x 0 else 0, if b1 = true then QD x 1 else 0, if b2 = true then QD x 2 else 0, if b3 = true then QD x 3 else 0, if b4 = true then QD x 4 else 0, if b5 = true then QD x 5 else 0, if b6 = true then QD x 6 else 0, if b6 = true then QD x 7 else 0, if b7 = true then QD x 8 else 0, if b8 = true then QD x 9 else 0, if b9 = true then QD x 10 else 0, if b10 = true then QD x 11 else 0, if b11 = true then QD x 12 else 0, if b12 = true then QD x 13 else 0] := by
    unfold VE; rw [r14]
    simp only [List.map_cons, List.map_nil, m0, m1, m2, m3, m4, m5, m6, m7, m8, m9, m10, m11, m12, m13]
  have z : ((List.range 14).all fun f => Kc x.fc f || CB (WF x) f) = ((b0 || x.fa7.toList == []) && (b1 || x.fa2.toList == []) && (b2 || decide (x.fj.length = 0)) && (b3 || decide (x.fg.fc = 0 ∧ x.fg.f3 = 0 ∧ x.fg.fy = 0 ∧ x.fg.fa3 = 0)) && (b4 || decide (x.fp.length = 0)) && (b5 || decide (x.f6.length = 0)) && (b6 || decide (x.fq = 0)) && (b6 || decide (x.f5 = 0)) && (b7 || decide (x.fo = 0)) && (b8 || decide (x.fa5 = 0)) && (b9 || decide (x.f8 = 0)) && (b10 || decide (x.fi = 0)) && (b11 || decide (x.ff.fc = 0 ∧ x.ff.fu.toList = [] ∧ x.ff.fi = 0 ∧ x.ff.fa4 = 0 ∧ x.ff.f7 = 0)) && (b12 || decide (x.fv.length = 0))) := by
    rw [r14]
    simp only [List.all_cons, List.all_nil, Bool.and_true, m0, m1, m2, m3, m4, m5, m6, m7, m8, m9, m10, m11, m12, m13, Bool.and_assoc]
    simp only [CB, WF, List.length_map]
    rfl
  unfold V5 Uk
  rw [if_neg (by simpa [WF] using hk)]
  change (if Vp (VE x.fc (QD x)) ≠ 0 then Vp (VE x.fc (QD x)) else if (List.range 14).all (fun f => Kc x.fc f || CB (WF x) f) = true then 0 else 18) = _
  rw [e, z]
theorem CP (L : List Int) (t : Int) : Vp (L ++ [t]) = if Vp L ≠ 0 then Vp L else t := by
  induction L with
  | nil => by_cases h : t = 0 <;> simp [Vp, h]
  | cons a r ih =>
    by_cases h : a ≠ 0
    · simp [Vp, h]
    · have h0 : a = 0 := by simpa using h
      simp only [List.cons_append, Vp, h0, ne_eq, not_true, if_false]; exact ih
theorem KF {V a : Int} {r : List Int} (h : V = Vp (a :: r)) (h0 : a = 0) : V = Vp r := by rw [h, Vp, if_neg (by simp [h0])]
theorem Aa {V a : Int} {r : List Int} (h : V = Vp (a :: r)) (h0 : a ≠ 0) : V = a := by rw [h, Vp, if_pos h0]
theorem V6 {V a b : Int} {r : List Int} (h : V = Vp (a :: r)) (h0 : a = b) (hb : b ≠ 0) : V = b := by rw [Aa h (by rw [h0]; exact hb), h0]
def bz (b : Bool) (c : Int) : Int := if b = true then c else 0
theorem WK {b : Bool} {c : Int} (h : b = true) : bz b c = c := by rw [bz, if_pos h]
theorem DO {b : Bool} {c : Int} (h : b = false) : bz b c = 0 := by rw [bz, if_neg (by simp [h])]
theorem CQ {b w : Bool} {c : Int} (h : ¬ bz b (if w = true then 0 else c) = 0) : bz b (if w = true then 0 else c) = c := by cases b <;> cases w <;> simp_all [bz]
theorem E6 {b0 b1 n0 n1 : Bool} {c : Int} (hc : c ≠ 0) (h : (b0 && !n0 || b1 && !n1) = true) (h0 : bz b0 (if n0 = true then 0 else c) = 0) : bz b1 (if n1 = true then 0 else c) = c := by
  cases b0 <;> cases b1 <;> cases n0 <;> cases n1 <;> simp_all [bz]
theorem E7 {b w : Bool} {c : Int} (h : (b && !w) = false) : bz b (if w = true then 0 else c) = 0 := by cases b <;> cases w <;> simp_all [bz]
theorem d_or4 {b0 b1 b2 b3 n0 n1 n2 n3 : Bool} {c : Int} (hc : c ≠ 0) (h : (b0 && !n0 || b1 && !n1 || b2 && !n2 || b3 && !n3) = true) (h0 : bz b0 (if n0 = true then 0 else c) = 0) (h1 : bz b1 (if n1 = true then 0 else c) = 0) (h2 : bz b2 (if n2 = true then 0 else c) = 0) : bz b3 (if n3 = true then 0 else c) = c := by
  cases b0 <;> cases n0 <;> cases b1 <;> cases n1 <;> cases b2 <;> cases n2 <;> simp_all [bz]
def CR (x : Qu) (u : Z7) : Int := if ((u.fe0 || x.fa7.toList == []) && (u.fe1 || x.fa2.toList == []) && (u.fe2 || decide (x.fj.length = 0)) && (u.fe3 || decide (x.fg.fc = 0 ∧ x.fg.f3 = 0 ∧ x.fg.fy = 0 ∧ x.fg.fa3 = 0)) && (u.fe4 || decide (x.fp.length = 0)) && (u.fe5 || decide (x.f6.length = 0)) && (u.fe6 || decide (x.fq = 0)) && (u.fe6 || decide (x.f5 = 0)) && (u.fe7 || decide (x.fo = 0)) && (u.fe8 || decide (x.fa5 = 0)) && (u.fe9 || decide (x.f8 = 0)) && (u.fe10 || decide (x.fi = 0)) && (u.fe11 || decide (x.ff.fc = 0 ∧ x.ff.fu.toList = [] ∧ x.ff.fi = 0 ∧ x.ff.fa4 = 0 ∧ x.ff.f7 = 0)) && (u.fe12 || decide (x.fv.length = 0))) = true then 0 else 18
theorem DR {x : Qu} (hk : Kn x.fc) {b0 b1 b2 b3 b4 b5 b6 b7 b8 b9 b10 b11 b12 : Bool} (hu : Vw x.fc = Z7.mk b0 b1 b2 b3 b4 b5 b6 b7 b8 b9 b10 b11 b12) :
    V5 x = Vp [bz b0 (QD x 0), bz b1 (QD x 1), bz b2 (QD x 2), bz b3 (QD x 3), bz b4 (QD x 4), bz b5 (QD x 5), bz b6 (QD x 6), bz b6 (QD x 7), bz b7 (QD x 8), bz b8 (QD x 9), bz b9 (QD x 10), bz b10 (QD x 11), bz b11 (QD x 12), bz b12 (QD x 13), CR x (Z7.mk b0 b1 b2 b3 b4 b5 b6 b7 b8 b9 b10 b11 b12)] :=
  (CO hk hu).trans (CP [bz b0 (QD x 0), bz b1 (QD x 1), bz b2 (QD x 2), bz b3 (QD x 3), bz b4 (QD x 4), bz b5 (QD x 5), bz b6 (QD x 6), bz b6 (QD x 7), bz b7 (QD x 8), bz b8 (QD x 9), bz b9 (QD x 10), bz b10 (QD x 11), bz b11 (QD x 12), bz b12 (QD x 13)] _).symm
theorem Yq (x : Qu) : ZW x (V5 x) := by
  unfold ZW Jl
  simp only [JH, exists_eq_left, jn, Zi, ZY]
  by_cases hk : Kn x.fc
  case neg =>
    have hw : wI x.fc 1 17 = false := by simpa [wI, Kn] using hk
    rw [hw]
    exact ⟨fun _ => CN hk, fun h => by simp at h⟩
  have hw : wI x.fc 1 17 = true := by simpa [wI, Kn] using hk
  refine ⟨fun h => by simp [hw] at h, fun _ => ?_⟩
  refine ⟨Vw x.fc, Up _, Ab x.fa7, fun _ => V4 _, Ab x.fa2, fun _ => V4 _, ?_⟩
  rcases hU : Vw x.fc with ⟨b0, b1, b2, b3, b4, b5, b6, b7, b8, b9, b10, b11, b12⟩
  have hv := DR hk hU
  generalize V5 x = V at hv ⊢
  simp only
  have l1 : Zw x b2 false (bz b2 (QD x 2)) := by
    have := Xl x b2 false
    have e : Yo x b2 false = bz b2 (QD x 2) := by unfold Yo bz; show _ = if b2 = true then AD x.fj else 0; grind
    rwa [e] at this
  have l2 : Zw x false b4 (bz b4 (QD x 4)) := by
    have := Xl x false b4
    have e : Yo x false b4 = bz b4 (QD x 4) := by unfold Yo bz; show _ = if b4 = true then AE x.fp else 0; grind
    rwa [e] at this
  have p3 := Vv x.fg
  have p12 := VI x.ff
  change QZ x.fg (QD x 3) at p3
  change Z1 x.ff (QD x 12) at p12
  refine ⟨fun h => ?_, fun h => ?_⟩
  · by_cases h0 : bz b0 (QD x 0) = 0
    · exact V6 (KF hv h0) (E6 (c := 6) (by decide) h h0) (by decide)
    · exact V6 hv (CQ (c := 6) h0) (by decide)
  have hh := Bool.or_eq_false_iff.1 h
  have z0 : bz b0 (QD x 0) = 0 := E7 (c := 6) hh.1
  have z1 : bz b1 (QD x 1) = 0 := E7 (c := 6) hh.2
  replace hv := KF (KF hv z0) z1
  clear h hh z0 z1
  refine ⟨_, l1, fun h => Aa hv (by simpa using h), fun h => ?_⟩
  replace hv := KF hv (by simpa using h)
  clear h l1
  suffices rest : V = Vp [bz b4 (QD x 4), bz b5 (QD x 5), bz b6 (QD x 6), bz b6 (QD x 7), bz b7 (QD x 8), bz b8 (QD x 9), bz b9 (QD x 10), bz b10 (QD x 11), bz b11 (QD x 12), bz b12 (QD x 13), CR x (Z7.mk b0 b1 b2 b3 b4 b5 b6 b7 b8 b9 b10 b11 b12)] → _ by
    refine ⟨fun hb => ⟨_, p3, fun h => ?_, fun h => rest (KF hv ?_)⟩, fun hb => rest (KF hv (DO hb))⟩
    · rw [Aa hv (by rw [WK hb]; simpa using h), WK hb]
    · rw [WK hb]; simpa using h
  clear hv p3
  intro hv
  refine ⟨_, l2, fun h => Aa hv (by simpa using h), fun h => ?_⟩
  replace hv := KF hv (by simpa using h)
  clear h l2
  have e5 : QD x 5 = if (x.f6.length : Int) > 64 then 11 else 0 := rfl
  refine ⟨fun h => ?_, fun h => ?_⟩
  · have h := Bool.and_eq_true_iff.1 h
    exact V6 hv (by rw [WK h.1, e5, if_pos (by simpa using h.2)]) (by decide)
  have z5 : bz b5 (QD x 5) = 0 := by
    cases b5
    · exact DO rfl
    · rw [WK rfl, e5, if_neg (by simpa using h)]
  replace hv := KF hv z5
  clear h z5 e5
  have er : ∀ n lo hi, YL n lo hi = if wI n lo hi = true then 0 else 5 := by intro n lo hi; unfold YL wI; simp
  have e6 : QD x 6 = if wI x.fq 1 1048576 = true then 0 else 5 := er _ _ _
  have e7 : QD x 7 = if wI x.f5 1 1048576 = true then 0 else 5 := er _ _ _
  have e8 : QD x 8 = if wI x.fo 0 3 = true then 0 else 5 := er _ _ _
  have e9 : QD x 9 = if wI x.fa5 0 15 = true then 0 else 5 := er _ _ _
  have e10 : QD x 10 = if wI x.f8 0 3 = true then 0 else 5 := er _ _ _
  have e11 : QD x 11 = if wI x.fi 0 32 = true then 0 else 5 := er _ _ _
  clear er
  rw [e6, e7, e8, e9, e10, e11] at hv
  clear e6 e7 e8 e9 e10 e11
  generalize wI x.fq 1 1048576 = w6 at *
  generalize wI x.f5 1 1048576 = w7 at *
  generalize wI x.fo 0 3 = w8 at *
  generalize wI x.fa5 0 15 = w9 at *
  generalize wI x.f8 0 3 = w10 at *
  generalize wI x.fi 0 32 = w11 at *
  refine ⟨w6, fun _ => rfl, w7, fun _ => rfl, fun h => ?_, fun h => ?_⟩
  · have h' : (b6 && !w6 || b6 && !w7) = true := by rw [← Bool.and_or_distrib_left]; exact h
    by_cases h0 : bz b6 (if w6 = true then 0 else 5) = 0
    · exact V6 (KF hv h0) (E6 (by decide) h' h0) (by decide)
    · exact V6 hv (CQ h0) (by decide)
  have hh : (b6 && !w6) = false ∧ (b6 && !w7) = false := by rw [← Bool.or_eq_false_iff, ← Bool.and_or_distrib_left]; exact h
  replace hv := KF (KF hv (E7 hh.1)) (E7 hh.2)
  clear h hh
  refine ⟨w8, fun _ => rfl, w9, fun _ => rfl, w10, fun _ => rfl, w11, fun _ => rfl, fun h => ?_, fun h => ?_⟩
  · by_cases h0 : bz b7 (if w8 = true then 0 else 5) = 0
    · replace hv := KF hv h0
      by_cases h1 : bz b8 (if w9 = true then 0 else 5) = 0
      · replace hv := KF hv h1
        by_cases h2 : bz b9 (if w10 = true then 0 else 5) = 0
        · exact V6 (KF hv h2) (d_or4 (by decide) h h0 h1 h2) (by decide)
        · exact V6 hv (CQ h2) (by decide)
      · exact V6 hv (CQ h1) (by decide)
    · exact V6 hv (CQ h0) (by decide)
  have k1 := Bool.or_eq_false_iff.1 h
  have k2 := Bool.or_eq_false_iff.1 k1.1
  have k3 := Bool.or_eq_false_iff.1 k2.1
  replace hv := KF (KF (KF (KF hv (E7 k3.1)) (E7 k3.2)) (E7 k2.2)) (E7 k1.2)
  clear h k1 k2 k3
  suffices rest : V = Vp [bz b12 (QD x 13), CR x (Z7.mk b0 b1 b2 b3 b4 b5 b6 b7 b8 b9 b10 b11 b12)] → _ by
    refine ⟨fun hb => ⟨_, p12, fun h => ?_, fun h => rest (KF hv ?_)⟩, fun hb => rest (KF hv (DO hb))⟩
    · rw [Aa hv (by rw [WK hb]; simpa using h), WK hb]
    · rw [WK hb]; simpa using h
  clear hv p12
  intro hv
  have e13 : QD x 13 = if (x.fv.length : Int) > 65536 then 11 else 0 := rfl
  refine ⟨fun h => ?_, fun h => ?_⟩
  · have h := Bool.and_eq_true_iff.1 h
    exact V6 hv (by rw [WK h.1, e13, if_pos (by simpa using h.2)]) (by decide)
  have z13 : bz b12 (QD x 13) = 0 := by
    cases b12
    · exact DO rfl
    · rw [WK rfl, e13, if_neg (by simpa using h)]
  replace hv := KF hv z13
  clear h z13 e13
  have hv2 : V = CR x (Z7.mk b0 b1 b2 b3 b4 b5 b6 b7 b8 b9 b10 b11 b12) := by
    rw [hv]; unfold Vp; split <;> simp_all [Vp]
  subst hv2
  unfold CR
  simp only
  have n0 : (ByteArray.empty).toList = [] := JI
  have lg : ∀ n : Nat, decide ((n : Int) > 0) = !decide (n = 0) := by
    intro n; by_cases h : n = 0
    · subst h; rfl
    · have : (n : Int) > 0 := by omega
      simp [h]; omega
  have ne : ∀ n : Int, (n != 0) = !decide (n = 0) := fun n => rfl
  have ee : ∀ n : Int, (n == 0) = decide (n = 0) := fun n => rfl
  have el : ∀ s : ByteArray, (s.toList == []) = decide (s.toList = []) := by intro s; by_cases h : s.toList = [] <;> simp [h]
  simp only [JI, n0, lg, ne, ee, el, Bool.and_true, ← Bool.decide_and]
  have pp : decide (x.fq = 0) = decide (x.fq = 0) := rfl
  generalize decide (x.fq = 0) = a6
  generalize decide (x.f5 = 0) = a7
  generalize decide (x.fa7.toList = []) = a0
  generalize decide (x.fa2.toList = []) = a1
  generalize decide (x.fj.length = 0) = a2
  generalize decide (x.fp.length = 0) = a4
  generalize decide (x.f6.length = 0) = a5
  generalize decide (x.fo = 0) = a8
  generalize decide (x.fa5 = 0) = a9
  generalize decide (x.f8 = 0) = a10
  generalize decide (x.fi = 0) = a11
  generalize decide (x.fv.length = 0) = a13
  generalize decide (x.fg.fc = 0 ∧ x.fg.f3 = 0 ∧ x.fg.fy = 0 ∧ x.fg.fa3 = 0) = a3
  generalize decide (x.ff.fc = 0 ∧ x.ff.fu.toList = [] ∧ x.ff.fi = 0 ∧ x.ff.fa4 = 0 ∧ x.ff.f7 = 0) = a12
  have key : ((((((((((((!b0 && !a0 || !b1 && !a1) || !b2 && !a2) || !b3 && !a3) || !b4 && !a4) || !b5 && !a5) || !b6 && (!a6 || !a7)) || !b7 && !a8) || !b8 && !a9) || !b9 && !a10) || !b10 && !a11) || !b11 && !a12) || !b12 && !a13) = !((b0 || a0) && (b1 || a1) && (b2 || a2) && (b3 || a3) && (b4 || a4) && (b5 || a5) && (b6 || a6) && (b6 || a7) && (b7 || a8) && (b8 || a9) && (b9 || a10) && (b10 || a11) && (b11 || a12) && (b12 || a13)) := by
    cases b6 <;> simp [Bool.not_and, Bool.not_or, Bool.or_assoc]
  refine ⟨fun h => if_neg fun h2 => ?_, fun h => if_pos ?_⟩
  · rw [key, h2] at h; cases h
  · rw [key, Bool.not_eq_false'] at h; exact h
theorem DT (d : List Int) : ((strOfNums d).toList == (strOfNums []).toList) = ((d.length : Int) == 0) := by
  rw [Bool.eq_iff_iff, beq_iff_eq, beq_iff_eq]
  constructor
  · intro h
    have := congrArg ByteArray.size (Bi h)
    rw [VW, VW] at this
    simp at this; simp [this]
  · intro h
    have : d = [] := List.eq_nil_of_length_eq_zero (by omega)
    rw [this]
def Ew (a : Qs) : Bool := ((((a.fa6 == 0 && a.f0 == 0) && a.fu.toList == (⟨#[]⟩ : ByteArray).toList) && ((a.fa8.length : Int) == 0)) && ((a.fa9.length : Int) == 0)) && !a.fw
def Ex (r : Qj) : Bool := (((((r.fa0 == 0 && r.f4 == 0) && r.fx == 0) && r.fo == 0) && ((r.fj.length : Int) == 0)) && Ew r.f9) && ((r.fv.length : Int) == 0)
theorem VY (a : Qs) : Zt a (Ew a) := by
  unfold Zt Kp
  simp only [Zi]; rfl
theorem Vx (r : Qj) : Z9 r (Ex r) := by
  unfold Z9 K3
  refine ⟨_, fun _ => VY _, ?_⟩
  simp only [Zi]; rfl
theorem YM (l : List Int) : Kd l [] ((l.length : Int) == 0) := by
  unfold Kd Jt
  simp only [jn]
  refine ⟨fun c => ?_, fun c => ?_⟩
  · simpa using c
  · have h : l.length = 0 := by simp at c; simp [c]
    rw [h]
    exact Kz 0 (by omega) (fun _ => True) trivial (fun j hj => absurd hj (by omega)) (fun _ => rfl)
theorem Xy (l : List Qx) : ZG l [] ((l.length : Int) == 0) := by
  unfold ZG KM
  simp only [jn]
  refine ⟨fun c => ?_, fun c => ?_⟩
  · simpa using c
  · have h : l.length = 0 := by simp at c; simp [c]
    rw [h]
    exact Kz 0 (by omega) (fun _ => True) trivial (fun j hj => absurd hj (by omega)) (fun _ => rfl)
theorem Xz (a : Qs) : ZH a (Qs.mk (0) (0) (ByteArray.empty) ([] : (List Int)) ([] : (List Qx)) (false)) (Ew a) := by
  unfold ZH KN
  refine ⟨_, fun _ => YM _, _, fun _ => Xy _, ?_⟩
  simp only [Zi]
  unfold Ew
  have e : (ByteArray.empty).toList = (⟨#[]⟩ : ByteArray).toList := rfl
  rw [e]
  cases a.fw
  · generalize ((a.fa8.length : Int) == 0) = p
    generalize ((a.fa9.length : Int) == 0) = q
    generalize ((a.fa6 == 0 && a.f0 == 0) && a.fu.toList == (⟨#[]⟩ : ByteArray).toList) = s
    cases p <;> cases q <;> cases s <;> rfl
  · simp
theorem Uu (r : Qj) : J6 r (Ex r) := by
  unfold J6 Vu
  refine ⟨Ex r, ?_, rfl⟩
  unfold ZP Kq
  simp only [jn, ZY, DT]
  have hz : Ex r = ((((((r.fa0 == 0 && r.f4 == 0) && r.fx == 0) && r.fo == 0) && ((r.fj.length : Int) == 0)) && Ew r.f9) && ((r.fv.length : Int) == 0)) := rfl
  refine ⟨_, fun _ => Xz _, fun c => ?_, fun c => ?_⟩
  · rw [hz]
    simp only [bne, List.length_nil] at c
    generalize (r.fa0 == 0) = c1 at *
    generalize (r.f4 == 0) = c2 at *
    generalize (r.fx == 0) = c3 at *
    generalize (r.fo == 0) = c4 at *
    generalize ((r.fv.length : Int) == 0) = c5 at *
    generalize Ew r.f9 = c6 at *
    have e : ((r.fj.length : Int) == ((0 : Nat) : Int)) = ((r.fj.length : Int) == 0) := rfl
    rw [e] at c
    generalize ((r.fj.length : Int) == 0) = c7 at *
    clear hz e
    revert c; revert c1 c2 c3 c4 c5 c6 c7; decide
  · have e : ((r.fj.length : Int) == ((0 : Nat) : Int)) = ((r.fj.length : Int) == 0) := rfl
    simp only [bne, List.length_nil, e] at c
    have h0 : r.fj.length = 0 := by
      have := (Bool.or_eq_false_iff.1 c).2
      simp at this; simp [this]
    rw [h0]
    refine Kz 0 (by omega) (fun _ => True) trivial (fun j hj => absurd hj (by omega)) (fun _ => ?_)
    rw [hz]
    generalize (r.fa0 == 0) = c1 at *
    generalize (r.f4 == 0) = c2 at *
    generalize (r.fx == 0) = c3 at *
    generalize (r.fo == 0) = c4 at *
    generalize ((r.fv.length : Int) == 0) = c5 at *
    generalize Ew r.f9 = c6 at *
    generalize ((r.fj.length : Int) == 0) = c7 at *
    clear hz e h0
    revert c; revert c1 c2 c3 c4 c5 c6 c7; decide
def BK (r : Q4) : Bool := (((decide (r.fm < 0) || decide (r.fm ≥ 64)) || decide (r.fk < 0)) || decide (r.fb < -1)) || decide (r.fa < -1)
def BL (l : List Q4) (i : Nat) (r : Q4) : Bool := match l[i - 1]? with
  | some x => decide ((i : Int) > 0) && decide (r.fk ≤ x.fk)
  | none => false
def AG (r : Q4) : Bool := (r.fb != -1 && (decide (r.fb ≤ r.fk) || (r.fa != -1 && decide (r.fb > r.fa)))) || (r.fa != -1 && decide (r.fa ≤ r.fk))
def DU (r x : Q4) : Bool := x.fm == r.fm && (x.fa == -1 || decide (x.fa ≥ r.fk))
def AH (r : Q4) : Bool := (((r.fa != -1 && r.fb == -1) && !(r.fh.fa0 == 16)) || (r.fb != -1 && r.fh.fa0 == 16)) || (r.fa == -1 && !Ex r.fh)
def DV (r x : Q4) : Bool := (r.fb != -1 && x.fb == r.fb) || (r.fa != -1 && x.fa == r.fa)
def XA (l : List Q4) (i : Nat) : Int := match l[i]? with
  | none => 0
  | some r => if BK r = true then 5 else if (V5 r.fOp != 0) = true then V5 r.fOp else if (BL l i r || AG r) = true then 19 else if (l.take i).any (DU r) = true then 12 else if AH r = true then 17 else if (l.take i).any (DV r) = true then 9 else 0
theorem YR {l : List Q4} {i : Nat} {r : Q4} (h : l[i]? = some r) : XA l i = if BK r = true then 5 else if (V5 r.fOp != 0) = true then V5 r.fOp else if (BL l i r || AG r) = true then 19 else if (l.take i).any (DU r) = true then 12 else if AH r = true then 17 else if (l.take i).any (DV r) = true then 9 else 0 := by
  unfold XA; rw [h]
theorem Y1 (r : Q4) : ZO r (!AG r) := by
  unfold ZO KZ AG
  simp only [Zi, ZY]
  refine ⟨fun c => ?_, fun c => ?_⟩
  · rw [c]; rfl
  · rw [c]
    have e : decide (r.fa > r.fk) = !decide (r.fa ≤ r.fk) := by
      by_cases h : r.fa ≤ r.fk <;> simp [h] <;> omega
    rw [e]
    simp [bne]
theorem Yr (r : Q4) : ZV r (!AH r) := by
  unfold ZV Jk AH
  simp only [Zi, ZY, bne]
  generalize (r.fa == -1) = A
  generalize (r.fb == -1) = B
  generalize (r.fh.fa0 == 16) = C
  refine ⟨fun c => ?_, fun c => ⟨fun c2 => ?_, fun c2 => ⟨Ex r.fh, fun _ => Vx _, ?_⟩⟩⟩
  · cases A <;> cases B <;> cases C <;> simp_all
  · cases A <;> cases B <;> cases C <;> simp_all
  · cases A <;> cases B <;> cases C <;> simp_all
theorem Uv (l : List Q4) (n : Nat) (hn : n ≤ l.length) (hl : l.length ≤ 4611686018427387904) (f : Q4 → Bool) {B : (Int → Prop) → Int → Prop} {J bad : Prop}
    (hB : ∀ (j : Nat) (hj : j < l.length), j < n → ∀ X : Int → Prop, (f l[j] = true → bad) → (f l[j] = false → X (IntKind.i64.wrap ((j : Int) + 1))) → B X (j : Int)) (hbad : (l.take n).any f = true → bad) (hJ : (l.take n).any f = false → J) :
    lp (fun X s => (decide (s < (n : Int)) = true → B X s) ∧ (decide (s < (n : Int)) = false → J)) 0 := by
  refine Kz n (by omega) (fun j => ∀ (k : Nat) (x : Q4), k < j → l[k]? = some x → f x = false) (fun k x h => by omega) ?_ ?_
  · intro j hj hI X hX
    have hj2 : j < l.length := by omega
    refine hB j hj2 hj X (fun h => hbad ?_) (fun h => hX fun k x hk hx => ?_)
    · refine List.any_eq_true.2 ⟨l[j], ?_, h⟩
      exact List.mem_iff_getElem.2 ⟨j, by simp; omega, by simp⟩
    · by_cases e : k = j
      · subst e
        have : l[k]? = some l[k] := by simp [hj2]
        rw [this] at hx; cases hx; exact h
      · exact hI k x (by omega) hx
  · intro hI
    refine hJ (List.any_eq_false.2 fun x hx => ?_)
    obtain ⟨k, hk, e⟩ := List.mem_iff_getElem.1 hx
    simp only [List.length_take] at hk
    rw [List.getElem_take] at e
    rw [hI k x (by omega) (by rw [← e]; simp)]; simp
theorem CS {l : List Q4} {j : Nat} (hj : j < l.length) : ∃ x, (decide ((j : Int) > 0) = true → ix l (IntKind.i64.wrap ((j : Int) - 1)) x) ∧ (decide ((j : Int) > 0) && decide (l[j].fk ≤ x.fk)) = BL l j l[j] ∨ l.length > 4611686018427387904 := by
  by_cases hl : l.length > 4611686018427387904
  · exact ⟨l[j], .inr hl⟩
  have h1 : j - 1 < l.length := by omega
  have e : l[j - 1]? = some l[j - 1] := by simp [h1]
  refine ⟨l[j - 1], .inl ⟨fun c => ?_, ?_⟩⟩
  · have : 0 < j := by simp at c; omega
    rw [YI (by omega)]
    exact KP (by omega) e
  · unfold BL; rw [e]
def CW (l : List Q4) (e : Int) : Prop := (e = 0 ∧ ∀ i, i < l.length → XA l i = 0) ∨ ∃ i, i < l.length ∧ (∀ k, k < i → XA l k = 0) ∧ XA l i = e ∧ e ≠ 0
theorem Be {l : List Q4} {e f : Int} (h1 : CW l e) (h2 : CW l f) : e = f := by
  rcases h1 with ⟨h1, h1'⟩ | ⟨i, hi, hi2, hi3, hi4⟩ <;> rcases h2 with ⟨h2, h2'⟩ | ⟨k, hk, hk2, hk3, hk4⟩
  · rw [h1, h2]
  · rw [h1' k hk] at hk3; exact absurd hk3.symm hk4
  · rw [h2' i hi] at hi3; exact absurd hi3.symm hi4
  · rcases Nat.lt_trichotomy i k with h | h | h
    · rw [hk2 i h] at hi3; exact absurd hi3.symm hi4
    · subst h; rw [← hi3, ← hk3]
    · rw [hi2 k h] at hk3; exact absurd hk3.symm hk4
theorem JJ (l : List Q4) (hl : l.length ≤ 1000000) : ∃ e, Zk l e ∧ CW l e := by
  apply Xr
  unfold Zj
  simp only [jn, ZY, Zi]
  refine Kz l.length (by omega) (fun j => ∀ k, k < j → XA l k = 0) (fun k h => by omega) ?_ (fun h => .inl ⟨rfl, h⟩)
  intro j hj hI X hX
  have ej : l[j]? = some l[j] := by simp [hj]
  have hr := YR ej
  have bad : ∀ e, XA l j = e → e ≠ 0 → CW l e := fun e h h0 => .inr ⟨j, hj, hI, h, h0⟩
  refine ⟨l[j], K0 hj, fun c => ?_, fun c => ?_⟩
  · exact bad 5 (by rw [hr]; exact if_pos c) (by decide)
  rw [if_neg (show ¬ BK l[j] = true by rw [show BK l[j] = false from c]; simp)] at hr
  clear c
  refine ⟨V5 l[j].fOp, VX _, fun c => ?_, fun c => ?_⟩
  · exact bad _ (by rw [hr]; exact if_pos c) (by simpa using c)
  rw [if_neg (by rw [c]; simp)] at hr
  clear c
  obtain ⟨x, ⟨hx, ex⟩ | h⟩ := CS hj
  case inr => omega
  refine ⟨x, hx, !AG l[j], fun _ => Y1 _, fun c => ?_, fun c => ?_⟩
  · rw [ex, Bool.not_not] at c
    exact bad _ (by rw [hr]; exact if_pos c) (by decide)
  rw [ex, Bool.not_not] at c
  rw [if_neg (by rw [c]; simp)] at hr
  clear c ex hx x
  have et : (List.take (Int.toNat (j : Int)) l).length = j := by simp; omega
  refine ⟨⟨by omega, by omega⟩, ?_⟩
  rw [et]
  refine Uv l j (by omega) (by omega) (DU l[j]) (bad := XA l j = 12) (fun k hk hkj Y hb hY => ?_) (fun c => by rw [hr]; exact if_pos c) (fun c => ?_)
  · refine ⟨l[k], ?_, fun c => bad _ (hb c) (by decide), hY⟩
    exact KP rfl (by rw [X1, List.getElem?_take_of_lt hkj]; simp [hk])
  rw [if_neg (by rw [c]; simp)] at hr
  clear c
  refine ⟨!AH l[j], Yr _, fun c => ?_, fun c => ?_⟩
  · rw [Bool.not_not] at c
    exact bad _ (by rw [hr]; exact if_pos c) (by decide)
  rw [Bool.not_not] at c
  rw [if_neg (by rw [c]; simp)] at hr
  clear c
  refine ⟨⟨by omega, by omega⟩, ?_⟩
  refine Uv l j (by omega) (by omega) (DV l[j]) (bad := XA l j = 9) (fun k hk hkj Y hb hY => ?_) (fun c => by rw [hr]; exact if_pos c) (fun c => ?_)
  · refine ⟨l[k], ?_, fun c => bad _ (hb c) (by decide), hY⟩
    exact KP rfl (by rw [X1, List.getElem?_take_of_lt hkj]; simp [hk])
  rw [if_neg (by rw [c]; simp)] at hr
  refine hX fun k hk => ?_
  by_cases e : k = j
  · subst e; exact hr
  · exact hI k (by omega)
theorem Wq (l : List Q4) (hl : l.length ≤ 1000000) (j : Nat) (hj : j < l.length) : Kr l (j : Int) (XA l j) := by
  unfold Kr JG
  simp only [jn, ZY, Zi]
  have ej : l[j]? = some l[j] := by simp [hj]
  have hr := YR ej
  refine ⟨l[j], K0 hj, fun c => ?_, fun c => ?_⟩
  · rw [hr]; exact if_pos c
  rw [if_neg (show ¬ BK l[j] = true by rw [show BK l[j] = false from c]; simp)] at hr
  clear c
  refine ⟨V5 l[j].fOp, Yq _, fun c => ?_, fun c => ?_⟩
  · rw [hr]; exact if_pos c
  rw [if_neg (by rw [c]; simp)] at hr
  clear c
  obtain ⟨x, ⟨hx, ex⟩ | h⟩ := CS hj
  case inr => omega
  refine ⟨x, hx, ?_⟩
  rw [ex]
  have eo : ((BL l j l[j] || (l[j].fb != -1 && (decide (l[j].fb ≤ l[j].fk) || (l[j].fa != -1 && decide (l[j].fb > l[j].fa))))) || (l[j].fa != -1 && decide (l[j].fa ≤ l[j].fk))) = (BL l j l[j] || AG l[j]) := by
    unfold AG; rw [Bool.or_assoc]
  rw [eo]
  refine ⟨fun c => ?_, fun c => ?_⟩
  · rw [hr]; exact if_pos c
  rw [if_neg (by rw [c]; simp)] at hr
  clear c ex hx x eo
  refine Uv l j (by omega) (by omega) (DU l[j]) (bad := XA l j = 12) (fun k hk hkj Y hb hY => ?_) (fun c => by rw [hr]; exact if_pos c) (fun c => ?_)
  · exact ⟨l[k], K0 hk, l[k], fun _ => K0 hk, l[k], fun _ => K0 hk, hb, hY⟩
  rw [if_neg (by rw [c]; simp)] at hr
  clear c
  refine ⟨Ex l[j].fh, fun _ => Uu _, fun c => ?_, fun c => ?_⟩
  · rw [hr]; exact if_pos c
  rw [if_neg (show ¬ AH l[j] = true by rw [show AH l[j] = false from c]; simp)] at hr
  clear c
  refine Uv l j (by omega) (by omega) (DV l[j]) (bad := XA l j = 9) (fun k hk hkj Y hb hY => ?_) (fun c => by rw [hr]; exact if_pos c) (fun c => ?_)
  · exact ⟨l[k], fun _ => K0 hk, l[k], fun _ => K0 hk, hb, hY⟩
  rw [if_neg (by rw [c]; simp)] at hr
  exact hr
theorem Ys (l : List Q4) (hl : l.length ≤ 1000000) : ∃ e, ZX l e ∧ CW l e := by
  apply Yi
  unfold Zz
  simp only [jn]
  refine Kz l.length (by omega) (fun j => ∀ k, k < j → XA l k = 0) (fun k h => by omega) ?_ (fun h => .inl ⟨rfl, h⟩)
  intro j hj hI X hX
  refine ⟨XA l j, Wq l hl j hj, fun c => ?_, fun c => ?_⟩
  · exact .inr ⟨j, hj, hI, rfl, by simpa using c⟩
  · refine hX fun k hk => ?_
    by_cases e : k = j
    · subst e; simpa using c
    · exact hI k (by omega)
def lsT : Qu := (Qu.mk (4) (ByteArray.empty) (ByteArray.empty) ([] : (List ByteArray)) (Qw.mk (0) (0) (0) (0)) ([] : (List Qv)) ([] : (List Int)) (0) (0) (0) (0) (0) (0) (QB.mk (0) (ByteArray.empty) (0) (0) (0)) ([] : (List Int)))
def zRs : Qj := (Qj.mk (0) (0) (0) (0) ([] : (List ByteArray)) (Qs.mk (0) (0) (ByteArray.empty) ([] : (List Int)) ([] : (List Qx)) (false)) ([] : (List Int)))
def kA : Q4 := Q4.mk (0) lsT (0) (1) (1) zRs
def kB : Q4 := Q4.mk (0) lsT (2) (3) (3) zRs
theorem m4 (C : Nat → Int) : Vp (VE 4 C) = 0 := rfl
theorem CX : V5 lsT = 0 := by
  have e : (ByteArray.empty).toList = [] := JI
  unfold V5 Uk
  rw [if_neg (by unfold Kn WF lsT; simp), if_neg (by show ¬ Vp (VE 4 _) ≠ 0; rw [m4]; simp), if_pos]
  simp [List.range, List.range.loop, CB, WF, lsT, e]
theorem k_rec : ∀ i, i < [kA, kB].length → XA [kA, kB] i = 0 := by
  intro i hi
  have va : V5 kA.fOp = 0 := CX
  have vb : V5 kB.fOp = 0 := CX
  rcases i with _ | _ | i
  · rw [YR (r := kA) rfl, va]; rfl
  · rw [YR (r := kB) rfl, vb]; rfl
  · simp at hi; omega
theorem k_rt : DJ [kA, kB] [0, 1] := by
  refine ⟨fun j a h => ?_, fun j k a b hk ha hb => ?_⟩
  · rcases j with _ | _ | j
    · cases h; exact ⟨by decide, by decide⟩
    · cases h; exact ⟨by decide, by decide⟩
    · simp at h
  · rcases j with _ | _ | j
    · omega
    · have : k = 0 := by omega
      subst this
      cases ha; cases hb; exact ⟨by decide, rfl⟩
    · simp at ha
theorem k_rf : ¬ DJ [kA, kB] [1, 0] := by
  intro h
  have := (h.2 1 0 0 1 (by omega) rfl rfl).2
  exact absurd this (by decide)
theorem Xm : Kh true := by
  unfold Kh JZ
  obtain ⟨r1, h1, h2⟩ := K9 [kA, kB] [0, 1] (by decide) (by decide)
  obtain ⟨r2, h3, h4⟩ := K9 [kA, kB] [1, 0] (by decide) (by decide)
  obtain ⟨e, h5, h6⟩ := JJ [kA, kB] (by decide)
  have t1 : r1 = true := h2.2 k_rt
  have t2 : r2 = false := by
    cases r2
    · rfl
    · exact absurd (h4.1 rfl) k_rf
  have t3 : e = 0 := Be h6 (.inl ⟨rfl, k_rec⟩)
  subst t1 t2 t3
  exact ⟨[0, 1], VC [kA, kB] (by decide), true, K8 kA kB, false, fun _ => K8 kB kA, 0, fun _ => ⟨by decide, rfl⟩, true, fun _ => h1, fun _ => ⟨false, h3, 0, fun _ => h5, rfl⟩, fun c => by simp at c⟩
theorem WL (l : List Q4) : ∃ r, KB l r ∧ (r = true → l.length ≤ 20) := by
  apply WB
  unfold Ke
  simp only [jn]
  refine ⟨fun c h => by simp at h, fun c => ?_⟩
  have h20 : l.length ≤ 20 := by simp at c; omega
  refine Kz l.length (by omega) (fun _ => True) trivial ?_ (fun _ _ => h20)
  intro j hj _ X hX
  exact ⟨l[j], K0 hj, fun c h => by simp at h, fun _ => hX trivial⟩
theorem XB (l : List Q4) (o : List Int) : K7 l o true := by
  unfold K7 KO
  simp only [jn]
  obtain ⟨v, hv, h20⟩ := WL l
  refine ⟨v, hv, fun c => ⟨Xm, trivial⟩, fun c => ?_⟩
  rw [ZY] at c
  have hl2 : l.length ≤ 20 := h20 (by simp at c; exact c.1)
  have ho : o.length ≤ 30 := by simp at c; omega
  have h1 := VC l (by omega)
  have h2 := WJ l (by omega)
  have hp := Wp l l.length
  generalize Ju l l.length = p at h1 h2 hp
  obtain ⟨e, he, hV⟩ := JJ l (by omega)
  obtain ⟨e', he', hV'⟩ := Ys l (by omega)
  have := Be hV hV'
  subst this
  obtain ⟨q, hq, hq1⟩ := Ur p p (by omega)
  have := hq1 rfl
  subst this
  obtain ⟨r1, hr1, hx1⟩ := K9 l o (by omega) (by omega)
  obtain ⟨r2, hr2, hx2⟩ := Vj l o (by omega) (by omega)
  have : r1 = r2 := by rw [Bool.eq_iff_iff]; exact hx1.trans hx2.symm
  subst this
  obtain ⟨r3, hr3, hx3⟩ := K9 l p (by omega) (by omega)
  obtain ⟨r4, hr4, hx4⟩ := Vj l p (by omega) (by omega)
  have : r3 = r4 := by rw [Bool.eq_iff_iff]; exact hx3.trans hx4.symm
  subst this
  refine ⟨p, h1, p, h2, e, he, e, he', true, fun _ => hq, r1, fun _ => hr1, r1, fun _ => hr2, r3, fun _ => hr3, r3, fun _ => hr4, fun c => by simp [ZY] at c, fun _ => ?_⟩
  refine We (I := fun n s => ∃ j : Nat, s = (j : Int) ∧ j ≤ l.length ∧ n = l.length - j) ?_ (k := l.length) ⟨0, rfl, by omega, by omega⟩
  rintro n s ⟨j, rfl, hj, hn⟩ X hX
  have w : IntKind.i64.wrap ((j : Int) + 1) = ((j + 1 : Nat) : Int) := by rw [YI (by omega)]; simp
  rw [w]
  refine ⟨fun c => ?_, fun _ => ⟨Xm, trivial⟩⟩
  have hj2 : j + 1 < l.length := by simp at c; omega
  refine ⟨_, K0 (by omega), _, K0 hj2, _, K8 _ _, _, K0 (by omega), _, K0 hj2, _, Vi _ _, fun c => by simp at c, fun _ => ?_⟩
  exact hX (l.length - (j + 1)) _ (by omega) ⟨j + 1, rfl, by omega, rfl⟩
end Go.Proofs.Ytmkhonigljegbaa
