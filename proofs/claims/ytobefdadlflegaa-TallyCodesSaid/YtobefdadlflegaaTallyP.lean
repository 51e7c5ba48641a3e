/- The plain law of Decode of tallies. No program. -/
import Derived.Test.YtobefdadlflegaaReads
import Derived.Test.YtobefdadlflegaaTallyO
namespace Go.Proofs.Ytobefdadlflegaa
open Go.RowKit Go.ChangeShapes Go.WideShapes
set_option linter.unusedVariables false
set_option linter.unusedSimpArgs false
/-- Decode, out of what was read. -/
def decTo (r : Option (List Int × List Int)) : Int × Int × Bool × Int :=
  match r with
  | some ([a, b, c], rest) => if valE a b = 0 ∧ c ≤ 1 ∧ rest = [] then (a, b, c == 1, 0) else (0, 0, false, 2)
  | _ => (0, 0, false, 2)
def decTa (l : List Int) : Int × Int × Bool × Int := decTo (reads 3 l)
theorem decT_accept {l : List Int} (hw : ∀ n ∈ l, (Lit.int .u8 n).wf = true) {a b c : Int} {rest : List Int} (h : reads 3 l = some ([a, b, c], rest)) (hv : valE a b = 0) : encTL a b (c == 1) = l ↔ (c ≤ 1 ∧ rest = []) := by
  obtain ⟨h1, _, h3⟩ := reads_enc 3 l _ _ hw h
  have hc := h3 c (by simp)
  unfold encTL
  rw [if_neg (by simpa using hv), ← h1]
  simp only [List.flatMap_cons, List.flatMap_nil, List.append_nil, List.append_assoc]
  have hs : (if (c == 1) = true then (1 : Int) else 0) = if c = 1 then 1 else 0 := by simp
  rw [hs]
  constructor
  · intro h
    have h := List.append_cancel_left (List.append_cancel_left h)
    by_cases h0 : c ≤ 1
    · refine ⟨h0, ?_⟩
      have : encU c = [if c = 1 then 1 else 0] := by
        unfold encU; rw [if_pos (by omega)]; split <;> (congr 1 <;> omega)
      rw [this] at h
      simpa using h
    · exfalso
      rw [if_neg (by omega)] at h
      have := (encU_ne 0 c (by omega) hc.1 (by omega) hc.2 [] rest (by rw [List.append_nil]; exact h)).1
      omega
  · rintro ⟨h0, rfl⟩
    have : encU c = [if c = 1 then 1 else 0] := by
      unfold encU; rw [if_pos (by omega)]; split <;> (congr 1 <;> omega)
    rw [this]; simp
/-- What encodes is read back. -/
theorem decT_back {t n : Int} {s : Bool} (hv : valE t n = 0) : decTa (encTL t n s) = (t, n, s, 0) := by
  have hin := valE_in hv
  have e : encTL t n s = encU t ++ (encU n ++ (encU (if s then 1 else 0) ++ [])) := by
    unfold encTL; rw [if_neg (by simpa using hv)]
    cases s <;> simp [encU]
  have d1 := decU_enc t hin.1 (by omega) (encU n ++ (encU (if s then 1 else 0) ++ []))
  have d2 := decU_enc n hin.2.2.1 (by omega) (encU (if s then 1 else 0) ++ [])
  have d3 := decU_enc (if s then 1 else 0) (by split <;> omega) (by split <;> omega) []
  have hr : reads 3 (encTL t n s) = some ([t, n, if s then 1 else 0], []) := by
    rw [e]
    simp only [reads, d1, d2, d3, Int.toNat_natCast, List.drop_left, ne_eq, not_true_eq_false, if_false, Option.map_some]
  unfold decTa
  rw [hr]
  simp only [decTo]
  rw [if_pos ⟨hv, by split <;> omega, by simp⟩]
  cases s <;> simp
end Go.Proofs.Ytobefdadlflegaa
