/- Plain laws of the encodings: a number has one encoding, and it is read back. Conditions: bytes are from 0 to 255, numbers from 0 to 2^62. -/
import Derived.Test.YtigpbfmnbdbpcaaWireSpec
namespace Go.Proofs.Ytigpbfmnbdbpcaa
open Go.RowKit Go.ChangeShapes Go.WideShapes
set_option linter.unusedVariables false
set_option linter.unusedSimpArgs false
theorem div_div256 (n : Int) (k : Nat) : n / 256 / 2 ^ (8 * k) = n / 2 ^ (8 * (k + 1)) := by
  rw [Int.ediv_ediv_of_nonneg (by omega), show 8 * (k + 1) = 8 + 8 * k from by omega, Int.pow_add]
  rfl
theorem beB_snoc (k : Nat) : ∀ n : Int, beB (k + 1) n = beB k (n / 256) ++ [n % 256] := by
  induction k with
  | zero => intro n; simp [beB]
  | succ k ih =>
    intro n
    rw [beB, ih n, beB, div_div256, List.cons_append]
theorem beB_beV : ∀ (j : Nat) (m : List Int), m.length = j → (∀ n ∈ m, (Lit.int .u8 n).wf = true) → beB j (beV m) = m := by
  intro j
  induction j with
  | zero => intro m hm _; rw [List.eq_nil_of_length_eq_zero hm]; rfl
  | succ j ih =>
    intro m hm hw
    rcases List.eq_nil_or_concat m with rfl | ⟨L, b, rfl⟩
    · simp at hm
    · have hb := bounds_u8 (hw b (by simp))
      rw [List.concat_eq_append] at *
      rw [beV_snoc, beB_snoc, show (beV L * 256 + b) / 256 = beV L from by omega, show (beV L * 256 + b) % 256 = b from by omega, ih L (by simpa using hm) (fun n hn => hw n (by simp [hn]))]
theorem beV_beB : ∀ (k : Nat) (n : Int), 0 ≤ n → n < 2 ^ (8 * k) → beV (beB k n) = n := by
  intro k
  induction k with
  | zero => intro n h0 h1; simp at h1; have : n = 0 := by omega
            subst this; rfl
  | succ k ih =>
    intro n h0 h1
    have h2 : n / 256 < 2 ^ (8 * k) := by
      rw [show 8 * (k + 1) = 8 * k + 8 from by omega, Int.pow_add] at h1
      exact Int.ediv_lt_of_lt_mul (by omega) h1
    rw [beB_snoc, beV_snoc, ih (n / 256) (by omega) h2]
    omega
theorem foldl_beV (m : List Int) : ∀ x : Int, m.foldl (fun x c => x * 256 + c) x = x * 256 ^ m.length + beV m := by
  induction m with
  | nil => intro x; simp [beV]
  | cons c m ih =>
    intro x
    have h0 : beV (c :: m) = (0 * 256 + c) * 256 ^ m.length + beV m := ih (0 * 256 + c)
    rw [List.foldl_cons, ih, h0, List.length_cons, Int.pow_succ, Int.add_mul, Int.mul_assoc, Int.mul_comm 256, Int.zero_mul, Int.zero_add]
    omega
theorem beV_cons (c : Int) (m : List Int) : beV (c :: m) = c * 256 ^ m.length + beV m := by
  have := foldl_beV m (0 * 256 + c)
  rw [beV, List.foldl_cons, this]
  simp
theorem pow256 (j : Nat) : (256 : Int) ^ j = 2 ^ (8 * j) := by
  rw [Int.pow_mul]; rfl
theorem nB_eq (n : Int) (j : Nat) (h1 : 1 ≤ j) (h8 : j ≤ 8) (hlo : j = 1 ∨ 2 ^ (8 * (j - 1)) ≤ n) (hhi : n < 2 ^ (8 * j)) : nB n = j := by
  have hj : j = 1 ∨ j = 2 ∨ j = 3 ∨ j = 4 ∨ j = 5 ∨ j = 6 ∨ j = 7 ∨ j = 8 := by omega
  unfold nB
  rcases hj with rfl | rfl | rfl | rfl | rfl | rfl | rfl | rfl <;> simp only [Nat.reduceMul, Nat.reduceSub, Int.reducePow] at hlo hhi <;> (repeat' split) <;> omega
theorem nB_hi (n : Int) (h0 : 0 ≤ n) (h1 : n ≤ 4611686018427387904) : n < 2 ^ (8 * nB n) := by
  unfold nB
  (repeat' split) <;> simp only [Nat.reduceMul, Int.reducePow] <;> omega
theorem nB_lo (n : Int) (h0 : 248 ≤ n) : 0 < n / 2 ^ (8 * (nB n - 1)) ∧ n / 2 ^ (8 * (nB n - 1)) ≤ 255 ∨ 72057594037927936 ≤ n := by
  unfold nB
  (repeat' split) <;> simp only [Nat.reduceMul, Nat.reduceSub, Int.reducePow] <;> omega
theorem gI_zero_cons (c : Int) (m : List Int) : gI (c :: m) 0 = c := rfl
theorem decU_canon {l : List Int} (hw : ∀ n ∈ l, (Lit.int .u8 n).wf = true) {n k : Int} (h : decU l = (n, k, 0)) : encU n = l.take k.toNat := by
  cases l with
  | nil => simp [decU] at h
  | cons c m =>
    have hc := bounds_u8 (hw c (by simp))
    have hwm : ∀ n ∈ m, (Lit.int .u8 n).wf = true := fun n hn => hw n (by simp [hn])
    unfold decU at h
    rw [if_neg (by simp)] at h
    rw [gI_zero_cons, List.tail_cons, List.length_cons] at h
    by_cases h1 : c < 248
    · rw [if_pos h1] at h
      simp only [Prod.mk.injEq] at h
      obtain ⟨rfl, rfl, _⟩ := h
      unfold encU
      rw [if_pos h1]
      simp
    · rw [if_neg h1] at h
      by_cases h2 : ((m.length + 1 : Nat) : Int) ≤ c - 247
      · rw [if_pos h2] at h; simp at h
      rw [if_neg h2] at h
      obtain ⟨j, hj⟩ : ∃ j : Nat, c = 248 + j := ⟨(c - 248).toNat, by omega⟩
      have e1 : (c - 247).toNat = j + 1 := by omega
      rw [e1] at h
      have hlen : (m.take (j + 1)).length = j + 1 := by rw [List.length_take]; omega
      have hX := beV_lt (m.take (j + 1)) (fun n hn => hwm n (List.mem_of_mem_take hn))
      have hB := beB_beV (j + 1) (m.take (j + 1)) hlen (fun n hn => hwm n (List.mem_of_mem_take hn))
      rw [hlen, pow256] at hX
      by_cases h3 : gI (c :: m) 1 = 0 ∨ beV (m.take (j + 1)) < 248 ∨ beV (m.take (j + 1)) > 4611686018427387904
      · rw [if_pos h3] at h; simp at h
      rw [if_neg h3] at h
      simp only [Prod.mk.injEq] at h
      obtain ⟨rfl, rfl, _⟩ := h
      have e2 : (c - 246).toNat = j + 2 := by omega
      rw [e2]
      cases m with
      | nil => simp at hlen
      | cons d m' =>
        have hd := bounds_u8 (hwm d (by simp))
        have hd0 : d ≠ 0 := fun e => h3 (.inl e)
        have hlo : j + 1 = 1 ∨ 2 ^ (8 * (j + 1 - 1)) ≤ beV ((d :: m').take (j + 1)) := by
          right
          have hl' : (m'.take j).length = j := by simpa using hlen
          have hm0 := (beV_lt (m'.take j) (fun n hn => hwm n (by simp [List.mem_of_mem_take hn]))).1
          rw [List.take_succ_cons, beV_cons, hl', pow256, Nat.add_sub_cancel]
          have hp : (0 : Int) ≤ 2 ^ (8 * j) := Int.pow_nonneg (by omega)
          have : 1 * (2 : Int) ^ (8 * j) ≤ d * 2 ^ (8 * j) := Int.mul_le_mul_of_nonneg_right (by omega) hp
          omega
        have hnB := nB_eq _ (j + 1) (by omega) (by omega) hlo hX.2
        unfold encU
        rw [if_neg (by omega), hnB, hB, show j + 2 = (j + 1) + 1 from rfl, List.take_succ_cons]
        congr 1
        omega
theorem decU_enc (n : Int) (h0 : 0 ≤ n) (h1 : n ≤ 4611686018427387904) (rest : List Int) : decU (encU n ++ rest) = (n, ((encU n).length : Int), 0) := by
  by_cases hs : n < 248
  · unfold encU
    rw [if_pos hs]
    unfold decU
    rw [if_neg (by simp), List.singleton_append, gI_zero_cons, if_pos hs]
    rfl
  · have hr := nB_range n
    have hhi := nB_hi n h0 h1
    have hv := beV_beB (nB n) n h0 hhi
    unfold encU
    rw [if_neg hs]
    unfold decU
    rw [if_neg (by simp), List.cons_append, gI_zero_cons, if_neg (by omega), if_neg (by simp [length_beB]; omega)]
    have e1 : (247 + (nB n : Int) - 247).toNat = nB n := by omega
    have e2 : ((beB (nB n) n ++ rest).take (nB n)) = beB (nB n) n := by
      rw [List.take_append_of_le_length (by rw [length_beB]; exact Nat.le_refl _), List.take_of_length_le (by rw [length_beB]; exact Nat.le_refl _)]
    rw [e1, List.tail_cons, e2, hv]
    have hg : gI ((247 + (nB n : Int)) :: (beB (nB n) n ++ rest)) 1 ≠ 0 := by
      obtain ⟨j, hj⟩ : ∃ j, nB n = j + 1 := ⟨nB n - 1, by omega⟩
      have hlo := nB_lo n (by omega)
      rw [hj] at hlo ⊢
      show n / 2 ^ (8 * j) % 256 ≠ 0
      rw [Nat.add_sub_cancel] at hlo
      rcases hlo with hlo | hlo
      · omega
      · have hj7 : j = 7 := by
          have : nB n = 8 := by
            unfold nB
            (repeat' split) <;> omega
          omega
        subst hj7
        simp only [Nat.reduceMul, Int.reducePow]
        omega
    rw [if_neg (by omega)]
    simp [length_beB]
    omega
theorem decU_cut (n : Int) (h0 : 0 ≤ n) (h1 : n ≤ 4611686018427387904) (k : Nat) (hk : k < (encU n).length) : decU ((encU n).take k) = (0, 0, 3) := by
  cases k with
  | zero => rfl
  | succ k =>
    by_cases hs : n < 248
    · unfold encU at hk
      rw [if_pos hs] at hk
      simp at hk
    · have hr := nB_range n
      unfold encU at hk ⊢
      rw [if_neg hs] at hk ⊢
      rw [List.length_cons, length_beB] at hk
      rw [List.take_succ_cons]
      unfold decU
      rw [if_neg (by simp), gI_zero_cons, if_neg (by omega), if_pos (by rw [List.length_cons, List.length_take, length_beB]; omega)]
theorem unframe_head {l : List Int} {N K : Nat} (hw : ∀ n ∈ l.tail, (Lit.int .u8 n).wf = true) (hc : encU (N : Int) = l.tail.take K) (h0 : 0 < l.length) (hl : 1 + K + N ≤ l.length) :
    headL (gI l 0) ((l.drop (1 + K)).take N) = l.take (1 + K + N) := by
  have hN : ((l.drop (1 + K)).take N).length = N := by rw [List.length_take, List.length_drop]; omega
  unfold headL
  rw [hN, hc]
  cases l with
  | nil => simp at h0
  | cons c m =>
    rw [gI_zero_cons, List.tail_cons, show 1 + K = K + 1 from by omega, List.drop_succ_cons, show K + 1 + N = (K + N) + 1 from by omega, List.take_succ_cons, List.take_add]
    rfl
theorem sum_same {l : List Int} {E : Nat} (hw : ∀ n ∈ l, (Lit.int .u8 n).wf = true) (hl : E + 4 ≤ l.length) :
    beV ((l.drop E).take 4) = chk (l.take E) ↔ (l.drop E).take 4 = beB 4 (chk (l.take E)) := by
  have hX := chk_range (l.take E)
  constructor
  · intro h
    rw [← h]
    exact (beB_beV 4 _ (by rw [List.length_take, List.length_drop]; omega) (fun n hn => hw n (List.mem_of_mem_drop (List.mem_of_mem_take hn)))).symm
  · intro h
    rw [h, beV_beB 4 _ hX.1 (by simpa using hX.2)]
theorem list_ext4 {a b : List Int} {n : Nat} (ha : a.length = n) (hb : b.length = n) (h : ∀ t, t < n → gI a t = gI b t) : a = b := by
  apply List.ext_getElem (by omega)
  intro i h1 h2
  have := h i (by omega)
  rwa [gI_eq h1, gI_eq h2] at this
end Go.Proofs.Ytigpbfmnbdbpcaa
