/- Plain laws of numbers that are read one after another. No program. -/
import Derived.Test.YtigpbfmnbdbpcaaWireLaw
namespace Go.Proofs.Ytigpbfmnbdbpcaa
open Go.RowKit Go.ChangeShapes Go.WideShapes
set_option linter.unusedVariables false
set_option linter.unusedSimpArgs false
/-- k numbers read one after another: the numbers, the rest. -/
def reads : Nat → List Int → Option (List Int × List Int)
  | 0, l => some ([], l)
  | k + 1, l => if (decU l).2.2 ≠ 0 then none else (reads k (l.drop (decU l).2.1.toNat)).map fun r => ((decU l).1 :: r.1, r.2)
theorem wf_drop {l : List Int} (hw : ∀ n ∈ l, (Lit.int .u8 n).wf = true) (k : Nat) : ∀ n ∈ l.drop k, (Lit.int .u8 n).wf = true := fun n hn => hw n (List.mem_of_mem_drop hn)
/-- What was read is encoded as the bytes that were read. -/
theorem reads_enc : ∀ (k : Nat) (l ns rest : List Int), (∀ n ∈ l, (Lit.int .u8 n).wf = true) → reads k l = some (ns, rest) → ns.flatMap encU ++ rest = l ∧ ns.length = k ∧ ∀ n ∈ ns, 0 ≤ n ∧ n ≤ 4611686018427387904 := by
  intro k
  induction k with
  | zero => intro l ns rest hw h; simp [reads] at h; obtain ⟨rfl, rfl⟩ := h; simp
  | succ k ih =>
    intro l ns rest hw h
    unfold reads at h
    by_cases he : (decU l).2.2 ≠ 0
    · rw [if_pos he] at h; simp at h
    rw [if_neg he] at h
    have he0 : (decU l).2.2 = 0 := by simpa using he
    have hd : decU l = ((decU l).1, (decU l).2.1, 0) := by rw [← he0]
    have hc := decU_canon hw hd
    have ho := decU_ok hw hd
    cases hr : reads k (l.drop (decU l).2.1.toNat) with
    | none => rw [hr] at h; simp at h
    | some r =>
      obtain ⟨ms, rs⟩ := r
      rw [hr] at h
      simp only [Option.map_some, Option.some.injEq, Prod.mk.injEq] at h
      obtain ⟨rfl, rfl⟩ := h
      obtain ⟨h1, h2, h3⟩ := ih _ _ _ (wf_drop hw _) hr
      refine ⟨?_, by simp [h2], ?_⟩
      · rw [List.flatMap_cons, List.append_assoc, h1, hc, List.take_append_drop]
      · intro n hn
        rcases List.mem_cons.1 hn with rfl | hn
        · omega
        · exact h3 n hn
theorem encU_ne (a b : Int) (ha : 0 ≤ a) (hb : 0 ≤ b) (ha1 : a ≤ 4611686018427387904) (hb1 : b ≤ 4611686018427387904) (r s : List Int) (h : encU a ++ r = encU b ++ s) : a = b ∧ r = s := by
  have h1 := decU_enc a ha ha1 r
  have h2 := decU_enc b hb hb1 s
  rw [h] at h1
  rw [h1] at h2
  simp only [Prod.mk.injEq] at h2
  obtain ⟨rfl, _, _⟩ := h2
  exact ⟨rfl, List.append_cancel_left h⟩
/-- Where the reading of k numbers stands after some of them. -/
theorem reads_step (k : Nat) (l : List Int) : reads (k + 1) l = if (decU l).2.2 ≠ 0 then none else (reads k (l.drop (decU l).2.1.toNat)).map fun r => ((decU l).1 :: r.1, r.2) := rfl
theorem strOfNums_eq {a b : List Int} (ha : ∀ n ∈ a, (Lit.int .u8 n).wf = true) (hb : ∀ n ∈ b, (Lit.int .u8 n).wf = true) : strOfNums a = strOfNums b ↔ a = b :=
  ⟨fun h => by rw [← sI_strOfNums ha, ← sI_strOfNums hb, h], fun h => by rw [h]⟩
end Go.Proofs.Ytigpbfmnbdbpcaa
