/- The plain laws of tallies: no program. -/
import Derived.Test.YtobefdadlflegaaTallyC
namespace Go.Proofs.Ytobefdadlflegaa
set_option linter.unusedVariables false
set_option linter.unusedSimpArgs false
theorem valE_ok {t n : Int} : valE t n = 0 ↔ 0 ≤ t ∧ t ≤ 4294967295 ∧ 0 ≤ n ∧ n ≤ t := by
  unfold valE; split <;> simp <;> omega
theorem mrgR_ok {t n a b : Int} (s u : Bool) (h1 : valE t n = 0) (h2 : valE a b = 0) :
    mrgR t n s a b u = (addS t a 4294967295, addS n b 4294967295, (s || u || addB t a 4294967295 || addB n b 4294967295), 0) := by
  unfold mrgR; rw [if_neg (by simpa using h1), if_neg (by simpa using h2)]
theorem valE_sum {t n a b : Int} (h1 : valE t n = 0) (h2 : valE a b = 0) : valE (addS t a 4294967295) (addS n b 4294967295) = 0 := by
  rw [valE_ok] at *
  unfold addS
  (repeat' split) <;> omega
theorem addS_assoc {a b c m : Int} (ha : 0 ≤ a) (hb : 0 ≤ b) (hc : 0 ≤ c) (hm : 0 ≤ m) (a1 : a ≤ m) (c1 : c ≤ m) : addS (addS a b m) c m = addS a (addS b c m) m := by
  unfold addS; (repeat' split) <;> omega
theorem addB_assoc {a b c m : Int} (ha : 0 ≤ a) (hb : 0 ≤ b) (hc : 0 ≤ c) (hm : 0 ≤ m) (a1 : a ≤ m) (c1 : c ≤ m) : (addB a b m || addB (addS a b m) c m) = (addB b c m || addB a (addS b c m) m) := by
  rw [Bool.eq_iff_iff]
  simp only [Bool.or_eq_true, addB, decide_eq_true_eq]
  unfold addS; (repeat' split) <;> omega
theorem addS_comm (a b m : Int) : addS a b m = addS b a m := by unfold addS; (repeat' split) <;> omega
theorem addB_comm (a b m : Int) : addB a b m = addB b a m := by
  rw [Bool.eq_iff_iff]; simp only [addB, decide_eq_true_eq]; omega
theorem bools_assoc {s u v x1 x2 x3 x4 y1 y2 y3 y4 : Bool} (f1 : (x1 || y1) = (x2 || y2)) (f2 : (x3 || y3) = (x4 || y4)) :
    (s || u || x1 || x3 || v || y1 || y3) = (s || (u || v || x2 || x4) || y2 || y4) := by
  have : (x1 || y1 || (x3 || y3)) = (x2 || y2 || (x4 || y4)) := by rw [f1, f2]
  clear f1 f2
  cases s <;> cases u <;> cases v <;> cases x1 <;> cases x3 <;> cases y1 <;> simp_all [Bool.or_assoc, Bool.or_comm, Bool.or_left_comm]
/-- Merging is associative. -/
theorem mrg_assoc {t n a b c d : Int} (s u v : Bool) (h1 : valE t n = 0) (h2 : valE a b = 0) (h3 : valE c d = 0) :
    mrgR (addS t a 4294967295) (addS n b 4294967295) (s || u || addB t a 4294967295 || addB n b 4294967295) c d v
      = mrgR t n s (addS a c 4294967295) (addS b d 4294967295) (u || v || addB a c 4294967295 || addB b d 4294967295) := by
  rw [mrgR_ok _ _ (valE_sum h1 h2) h3, mrgR_ok _ _ h1 (valE_sum h2 h3)]
  have e1 := valE_ok.1 h1
  have e2 := valE_ok.1 h2
  have e3 := valE_ok.1 h3
  have f1 := addB_assoc (m := 4294967295) e1.1 e2.1 e3.1 (by omega) e1.2.1 e3.2.1
  have f2 := addB_assoc (a := n) (b := b) (c := d) (m := 4294967295) (by omega) (by omega) (by omega) (by omega) (by omega) (by omega)
  rw [addS_assoc e1.1 e2.1 e3.1 (by omega) e1.2.1 e3.2.1, addS_assoc (a := n) (b := b) (c := d) (by omega) (by omega) (by omega) (by omega) (by omega) (by omega)]
  generalize addB t a 4294967295 = x1 at *
  generalize addB a c 4294967295 = x2 at *
  generalize addB n b 4294967295 = x3 at *
  generalize addB b d 4294967295 = x4 at *
  rw [← addS_assoc e1.1 e2.1 e3.1 (by omega) e1.2.1 e3.2.1, ← addS_assoc (a := n) (b := b) (c := d) (by omega) (by omega) (by omega) (by omega) (by omega) (by omega)] 
  generalize addB (addS t a 4294967295) c 4294967295 = y1 at *
  generalize addB t (addS a c 4294967295) 4294967295 = y2 at *
  generalize addB (addS n b 4294967295) d 4294967295 = y3 at *
  generalize addB n (addS b d 4294967295) 4294967295 = y4 at *
  congr 1
  congr 1
  congr 1
  exact bools_assoc f1 f2
end Go.Proofs.Ytobefdadlflegaa
