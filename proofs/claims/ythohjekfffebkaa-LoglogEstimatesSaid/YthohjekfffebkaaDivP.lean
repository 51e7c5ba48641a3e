/- The plain law of the long division by words of 32 bits (Knuth's). -/
import Derived.Test.YthohjekfffebkaaLib
namespace Go.Proofs.Ythohjekfffebkaa
open Go.RowKit Go.ChangeShapes Go.WideShapes
set_option linter.unusedVariables false
theorem kn_eq {B a b u v q r : Nat} (h : q * a + r = u) : u * B + v = q * (a * B) + B * r + v := by
  subst h
  rw [Nat.add_mul, Nat.mul_assoc, Nat.mul_comm r B]
theorem kn_le {B a b u v q r : Nat} (h : q * a + r = u) (c : q * b ≤ B * r + v) : q * (a * B + b) ≤ u * B + v := by
  rw [kn_eq (b := b) h, Nat.mul_add]; omega
theorem kn_gt {B a b u v q r : Nat} (h : q * a + r = u) (c : B * r + v < q * b) : u * B + v < q * (a * B + b) := by
  rw [kn_eq (b := b) h, Nat.mul_add]; omega
theorem kn_lt {B y u v : Nat} (hu : u < y) (hv : v < B) : (u * B + v) / y < B := by
  apply Nat.div_lt_of_lt_mul
  have h := Nat.mul_le_mul_right B (show u + 1 ≤ y from hu)
  rw [Nat.add_mul] at h
  omega
/-- One more step down is still not below the quotient. -/
theorem kn_step {B a b u v q r : Nat} (h : q * a + r = u) (hu : u < a * B + b) (hv : v < B) (hq : (u * B + v) / (a * B + b) ≤ q) (c : B ≤ q ∨ B * r + v < q * b) : 1 ≤ q ∧ (u * B + v) / (a * B + b) ≤ q - 1 ∧ (q - 1) * a + (r + a) = u := by
  have hlt : (u * B + v) / (a * B + b) < q := by
    rcases c with c | c
    · exact Nat.lt_of_lt_of_le (kn_lt hu hv) c
    · exact Nat.div_lt_of_lt_mul (Nat.lt_of_lt_of_eq (kn_gt h c) (Nat.mul_comm _ _))
  refine ⟨Nat.lt_of_le_of_lt (Nat.zero_le _) hlt, Nat.le_sub_one_of_lt hlt, ?_⟩
  obtain ⟨p, rfl⟩ : ∃ p, q = p + 1 := ⟨q - 1, by have := Nat.lt_of_le_of_lt (Nat.zero_le _) hlt; omega⟩
  rw [Nat.add_sub_cancel]
  rw [Nat.add_mul] at h
  omega
/-- At the end it is the quotient. -/
theorem kn_end {B a b u v q r : Nat} (h : q * a + r = u) (hy : 0 < a * B + b) (hq : (u * B + v) / (a * B + b) ≤ q) (c : q * b ≤ B * r + v) : q = (u * B + v) / (a * B + b) :=
  Nat.le_antisymm ((Nat.le_div_iff_mul_le hy).2 (kn_le h c)) hq
/-- A rest of more than a word ends the search. -/
theorem kn_break {B a b u v q r : Nat} (h : q * a + r = u) (hu : u < a * B + b) (hb : b < B) (hr : B ≤ r) : q < B ∧ q * b ≤ B * r + v := by
  have hq : q < B := by
    rcases Nat.lt_or_ge q B with c | c
    · exact c
    · have := Nat.mul_le_mul_left a c
      rw [Nat.mul_comm a q] at this
      omega
  refine ⟨hq, ?_⟩
  have h1 := Nat.mul_le_mul (Nat.le_of_lt hq) (Nat.le_of_lt hb)
  have h2 := Nat.mul_le_mul_left B hr
  omega
/-- The rest by words of 64 bits. -/
theorem kn_rest {B u v y q : Nat} (hq : q = (u * B + v) / y) : ((u : Int) * B + v - q * y) = ((u * B + v) % y : Nat) := by
  have h := Nat.div_add_mod (u * B + v) y
  rw [← hq, Nat.mul_comm] at h
  have h' : ((q * y + (u * B + v) % y : Nat) : Int) = ((u * B + v : Nat) : Int) := by rw [h]
  push_cast at h' ⊢
  omega
/-- Two steps are the whole division. -/
theorem kn_two {B u v w y : Nat} (hB : 0 < B) (hw : w < B) (hy : 0 < y) : (u * B + v) / y * B + ((u * B + v) % y * B + w) / y = ((u * B + v) * B + w) / y := by
  have h := Nat.div_add_mod (u * B + v) y
  have e : (u * B + v) * B + w = ((u * B + v) % y * B + w) + y * ((u * B + v) / y * B) := by
    conv => lhs; rw [← h]
    rw [Nat.add_mul, Nat.mul_assoc]
    omega
  rw [e, Nat.add_mul_div_left _ _ hy, Nat.add_comm]
/-- Both shifted by the same. -/
theorem kn_shift {s n y : Nat} (hs : 0 < s) : (n * s) / (y * s) = n / y := Nat.mul_div_mul_right n y hs
end Go.Proofs.Ythohjekfffebkaa
