/- The plain functions of the layer wire, over lists of numbers. No condition. -/
import Derived.Test.YtigpbfmnbdbpcaaLib
import Derived.Laws.Bits64
namespace Go.Proofs.Ytigpbfmnbdbpcaa
open Go.RowKit Go.ChangeShapes Go.WideShapes
set_option linter.unusedVariables false
set_option linter.unusedSimpArgs false

/-- The low k bytes of n, the highest first. -/
def beB : Nat → Int → List Int
  | 0, _ => []
  | k + 1, n => (n / 2 ^ (8 * k)) % 256 :: beB k n
theorem length_beB (k : Nat) (n : Int) : (beB k n).length = k := by induction k with
  | zero => rfl
  | succ k ih => simp [beB, ih]

/-- How many bytes n has, at least one and at most eight. -/
def nB (n : Int) : Nat :=
  if n < 256 then 1 else if n < 65536 then 2 else if n < 16777216 then 3 else if n < 4294967296 then 4 else
  if n < 1099511627776 then 5 else if n < 281474976710656 then 6 else if n < 72057594037927936 then 7 else 8
theorem nB_range (n : Int) : 1 ≤ nB n ∧ nB n ≤ 8 := by unfold nB; repeat' split
                                                       all_goals omega

def encU (n : Int) : List Int := if n < 248 then [n] else (247 + (nB n : Int)) :: beB (nB n) n
/-- EncodeUint: the bytes, the error. -/
def encL (n : Int) : List Int := if n < 0 ∨ n > 4611686018427387904 then [] else encU n
def encE (n : Int) : Int := if n < 0 ∨ n > 4611686018427387904 then 5 else 0

theorem nB_up (n : Int) (k : Nat) (h1 : 1 ≤ k) (h8 : k < 8) (hlt : k < nB n) : 0 < n / 2 ^ (8 * k) := by
  unfold nB at hlt
  have hk : k = 1 ∨ k = 2 ∨ k = 3 ∨ k = 4 ∨ k = 5 ∨ k = 6 ∨ k = 7 := by omega
  rcases hk with rfl | rfl | rfl | rfl | rfl | rfl | rfl <;> simp only [Nat.reduceMul, Int.reducePow] <;> (repeat' split at hlt) <;> omega
theorem nB_end (n : Int) (k : Nat) (h0 : 0 ≤ n) (h1 : 1 ≤ k) (h8 : k < 8) (hlt : nB n ≤ k) : n / 2 ^ (8 * k) ≤ 0 := by
  unfold nB at hlt
  have hk : k = 1 ∨ k = 2 ∨ k = 3 ∨ k = 4 ∨ k = 5 ∨ k = 6 ∨ k = 7 := by omega
  rcases hk with rfl | rfl | rfl | rfl | rfl | rfl | rfl <;> simp only [Nat.reduceMul, Int.reducePow] <;> (repeat' split at hlt) <;> omega
theorem length_encU (n : Int) : (encU n).length ≤ 9 := by
  unfold encU
  have := nB_range n
  split
  · simp
  · simp [length_beB]; omega
theorem enc_push {n : Int} {xs : List Int} {j : Nat} {t : List Int} (h : xs ++ beB (j + 1) n = t) : (xs ++ [n / 2 ^ (8 * j) % 256]) ++ beB j n = t := by
  rw [← h]; simp [beB]
theorem enc_len {n : Int} {xs : List Int} {j : Nat} {t : List Int} (h : xs ++ beB j n = t) : xs.length + j = t.length := by
  rw [← h]; simp [length_beB]
theorem nB_pos (n : Int) (k : Nat) (h0 : 0 < n) (hlt : k < nB n) : 0 < n / 2 ^ (8 * k) := by
  have hr := nB_range n
  by_cases h : k = 0
  · subst h; simpa using h0
  · exact nB_up n k (by omega) (by omega) hlt
theorem nB_out (n : Int) (k : Nat) (h0 : 0 ≤ n) (h1 : n ≤ 4611686018427387904) (hlt : nB n ≤ k) (h8 : k ≤ 8) : n / 2 ^ (8 * k) ≤ 0 := by
  have hr := nB_range n
  by_cases h : k = 8
  · subst h; simp only [Nat.reduceMul, Int.reducePow]; omega
  · exact nB_end n k h0 (by omega) (by omega) hlt
theorem div_step (n : Int) (j : Nat) : n / 2 ^ (8 * j) / 256 = n / 2 ^ (8 * (j + 1)) := by
  rw [Int.ediv_ediv_of_nonneg (by exact Int.le_of_lt (Int.pow_pos (by omega))), show 8 * (j + 1) = 8 * j + 8 from by omega, Int.pow_add]
  rfl
/-- The number that bytes make, the highest first. -/
def beV (l : List Int) : Int := l.foldl (fun x c => x * 256 + c) 0
theorem beV_snoc (l : List Int) (c : Int) : beV (l ++ [c]) = beV l * 256 + c := by simp [beV]
theorem beV_aux (l : List Int) (h : ∀ n ∈ l, (Lit.int .u8 n).wf = true) : ∀ x : Int, 0 ≤ x → 0 ≤ l.foldl (fun x c => x * 256 + c) x ∧ l.foldl (fun x c => x * 256 + c) x < (x + 1) * 256 ^ l.length := by
  induction l with
  | nil => intro x hx; simp; omega
  | cons c l ih =>
    intro x hx
    have hc := bounds_u8 (h c (by simp))
    have := ih (fun n hn => h n (by simp [hn])) (x * 256 + c) (by omega)
    refine ⟨this.1, Int.lt_of_lt_of_le this.2 ?_⟩
    rw [List.length_cons, Int.pow_succ, Int.mul_comm (256 ^ l.length) 256, ← Int.mul_assoc]
    exact Int.mul_le_mul_of_nonneg_right (by omega) (Int.pow_nonneg (by omega))
theorem beV_lt (l : List Int) (h : ∀ n ∈ l, (Lit.int .u8 n).wf = true) : 0 ≤ beV l ∧ beV l < 256 ^ l.length := by
  have := beV_aux l h 0 (by omega)
  simpa [beV] using this
theorem beV_step {X c : Int} (h0 : 0 ≤ X) (h1 : X < 72057594037927936) (c0 : 0 ≤ c) (c1 : c ≤ 255) : bits BinOp.or IntKind.u64 (X * 256) c = X * 256 + c :=
  bits_join .u64 64 (by decide) (fun n a b => by rw [IntKind.wrap_u64]; omega) 8 (X * 256) c (by omega) (by omega) (by omega) c0 (by omega) (by omega)
theorem mem_tail_of {l : List Int} {n : Int} (h : n ∈ l.tail) : n ∈ l := List.mem_of_mem_tail h
theorem beV_take (l : List Int) (h : ∀ n ∈ l, (Lit.int .u8 n).wf = true) (j : Nat) (hj : j < 8) : 0 ≤ beV (l.take j) ∧ beV (l.take j) < 72057594037927936 := by
  have := beV_lt (l.take j) (fun n hn => h n (List.mem_of_mem_take hn))
  have hl : (l.take j).length ≤ 7 := by rw [List.length_take]; omega
  have h7 : (256 : Int) ^ (l.take j).length ≤ 72057594037927936 := by
    generalize (l.take j).length = n at hl
    match n, hl with
    | 0, _ => decide
    | 1, _ => decide
    | 2, _ => decide
    | 3, _ => decide
    | 4, _ => decide
    | 5, _ => decide
    | 6, _ => decide
    | 7, _ => decide
    | n + 8, h => omega
  exact ⟨this.1, Int.lt_of_lt_of_le this.2 h7⟩
/-- DecodeUint: the number, the bytes used, the error. -/
def decU (l : List Int) : Int × Int × Int :=
  if l = [] then (0, 0, 3)
  else if gI l 0 < 248 then (gI l 0, 1, 0)
  else if (l.length : Int) ≤ gI l 0 - 247 then (0, 0, 3)
  else if gI l 1 = 0 ∨ beV (l.tail.take (gI l 0 - 247).toNat) < 248 ∨ beV (l.tail.take (gI l 0 - 247).toNat) > 4611686018427387904 then (0, 0, 2)
  else (beV (l.tail.take (gI l 0 - 247).toNat), gI l 0 - 246, 0)
/-- DecodeWord. -/
def decW (l : List Int) : Int × Int × Int := if l.length < 8 then (0, 0, 3) else (beV (l.take 8), 8, 0)
theorem decU_ok {l : List Int} (hw : ∀ n ∈ l, (Lit.int .u8 n).wf = true) {n k : Int} (h : decU l = (n, k, 0)) : 0 ≤ n ∧ n ≤ 4611686018427387904 ∧ 1 ≤ k ∧ k ≤ 9 ∧ k ≤ l.length ∧ 0 < l.length := by
  have g0 := gI_u8 hw 0
  have hx := (beV_lt (l.tail.take (gI l 0 - 247).toNat) (fun n hn => hw n (List.mem_of_mem_tail (List.mem_of_mem_take hn)))).1
  unfold decU at h
  by_cases h0 : l = []
  · rw [if_pos h0] at h; simp at h
  have hl : 0 < l.length := List.length_pos_iff.2 h0
  rw [if_neg h0] at h
  by_cases h1 : gI l 0 < 248
  · rw [if_pos h1] at h; simp only [Prod.mk.injEq] at h; omega
  rw [if_neg h1] at h
  by_cases h2 : (l.length : Int) ≤ gI l 0 - 247
  · rw [if_pos h2] at h; simp at h
  rw [if_neg h2] at h
  generalize beV (l.tail.take (gI l 0 - 247).toNat) = X at h hx
  by_cases h3 : gI l 1 = 0 ∨ X < 248 ∨ X > 4611686018427387904
  · rw [if_pos h3] at h; simp at h
  rw [if_neg h3] at h
  simp only [Prod.mk.injEq] at h
  omega
theorem decU_err {l : List Int} {n k e : Int} (h : decU l = (n, k, e)) (he : e ≠ 0) : n = 0 ∧ k = 0 ∧ (e = 2 ∨ e = 3) := by
  unfold decU at h
  by_cases h0 : l = []
  · rw [if_pos h0] at h; simp only [Prod.mk.injEq] at h; omega
  rw [if_neg h0] at h
  by_cases h1 : gI l 0 < 248
  · rw [if_pos h1] at h; simp only [Prod.mk.injEq] at h; omega
  rw [if_neg h1] at h
  by_cases h2 : (l.length : Int) ≤ gI l 0 - 247
  · rw [if_pos h2] at h; simp only [Prod.mk.injEq] at h; omega
  rw [if_neg h2] at h
  generalize beV (l.tail.take (gI l 0 - 247).toNat) = X at h
  by_cases h3 : gI l 1 = 0 ∨ X < 248 ∨ X > 4611686018427387904
  · rw [if_pos h3] at h; simp only [Prod.mk.injEq] at h; omega
  rw [if_neg h3] at h
  simp only [Prod.mk.injEq] at h
  omega
/-- DecodeText, out of what DecodeUint gives. -/
def decTx (l : List Int) (r : Int × Int × Int) : ByteArray × Int × Int :=
  if r.2.2 ≠ 0 then (⟨#[]⟩, 0, r.2.2)
  else if r.1 > 65536 then (⟨#[]⟩, 0, 2)
  else if (l.length : Int) - r.2.1 < r.1 then (⟨#[]⟩, 0, 3)
  else (strOfNums ((l.drop r.2.1.toNat).take r.1.toNat), r.2.1 + r.1, 0)
def decT (l : List Int) : ByteArray × Int × Int := decTx l (decU l)
/-- Checksum: the two sums. -/
def chkS (p : Int × Int) (c : Int) : Int × Int := ((p.1 + c) % 65521, (p.2 + (p.1 + c) % 65521) % 65521)
def chkP (l : List Int) : Int × Int := l.foldl chkS (1, 0)
def chk (l : List Int) : Int := (chkP l).2 * 65536 + (chkP l).1
theorem chkP_snoc (l : List Int) (c : Int) : chkP (l ++ [c]) = chkS (chkP l) c := by simp [chkP]
theorem chkS_range (p : Int × Int) (c : Int) : 0 ≤ (chkS p c).1 ∧ (chkS p c).1 < 65521 ∧ 0 ≤ (chkS p c).2 ∧ (chkS p c).2 < 65521 := by
  simp only [chkS]; omega
theorem foldl_chk_range (l : List Int) : ∀ p : Int × Int, (0 ≤ p.1 ∧ p.1 < 65521 ∧ 0 ≤ p.2 ∧ p.2 < 65521) → 0 ≤ (l.foldl chkS p).1 ∧ (l.foldl chkS p).1 < 65521 ∧ 0 ≤ (l.foldl chkS p).2 ∧ (l.foldl chkS p).2 < 65521 := by
  induction l with
  | nil => intro p h; exact h
  | cons c l ih => intro p _; exact ih _ (chkS_range p c)
theorem chkP_range (l : List Int) : 0 ≤ (chkP l).1 ∧ (chkP l).1 < 65521 ∧ 0 ≤ (chkP l).2 ∧ (chkP l).2 < 65521 := foldl_chk_range l (1, 0) (by decide)
theorem chk_range (l : List Int) : 0 ≤ chk l ∧ chk l < 4294967296 := by
  have := chkP_range l
  unfold chk
  omega
/-- Frame. -/
def headL (tag : Int) (body : List Int) : List Int := tag :: encU body.length ++ body
def frameL (tag : Int) (body : List Int) : List Int := if body.length > 1048576 then [] else headL tag body ++ beB 4 (chk (headL tag body))
def frameE (body : List Int) : Int := if body.length > 1048576 then 11 else 0
theorem wf_u8 {n : Int} (h0 : 0 ≤ n) (h1 : n ≤ 255) : (Lit.int .u8 n).wf = true := by
  simp [Lit.wf, IntKind.min, IntKind.max, IntKind.signed, IntKind.bits]; omega
theorem wf_beB (k : Nat) (n : Int) : ∀ c ∈ beB k n, (Lit.int .u8 c).wf = true := by
  induction k with
  | zero => intro c hc; simp [beB] at hc
  | succ k ih =>
    intro c hc
    rw [beB, List.mem_cons] at hc
    rcases hc with rfl | hc
    · exact wf_u8 (by omega) (by omega)
    · exact ih c hc
theorem wf_encU (n : Int) (h : 0 ≤ n) : ∀ c ∈ encU n, (Lit.int .u8 c).wf = true := by
  intro c hc
  unfold encU at hc
  have := nB_range n
  split at hc
  · simp at hc; subst hc; exact wf_u8 (by omega) (by omega)
  · rcases List.mem_cons.1 hc with rfl | hc
    · exact wf_u8 (by omega) (by omega)
    · exact wf_beB _ _ c hc
theorem wf_headL (tag : Int) (body : List Int) (ht : (Lit.int .u8 tag).wf = true) (hb : ∀ n ∈ body, (Lit.int .u8 n).wf = true) : ∀ c ∈ headL tag body, (Lit.int .u8 c).wf = true := by
  intro c hc
  unfold headL at hc
  rcases List.mem_cons.1 hc with rfl | hc
  · exact ht
  · rcases List.mem_append.1 hc with hc | hc
    · exact wf_encU _ (by omega) c hc
    · exact hb c hc
theorem length_headL (tag : Int) (body : List Int) : (headL tag body).length = 1 + (encU body.length).length + body.length := by
  unfold headL; simp; omega
theorem beB4 {X : Int} (h0 : 0 ≤ X) (h1 : X < 4294967296) : beB 4 X = [X / 16777216, X / 65536 % 256, X / 256 % 256, X % 256] := by
  have e3 : (2 : Int) ^ (8 * 3) = 16777216 := by decide
  have e2 : (2 : Int) ^ (8 * 2) = 65536 := by decide
  have e1 : (2 : Int) ^ (8 * 1) = 256 := by decide
  have e0 : (2 : Int) ^ (8 * 0) = 1 := by decide
  simp only [beB, e3, e2, e1, e0, Int.ediv_one]
  rw [Int.emod_eq_of_lt (a := X / 16777216) (by omega) (by omega)]
/-- Unframe: the tag, the body, the bytes used, the error; out of what DecodeUint gives. -/
def unfR (l : List Int) (r : Int × Int × Int) : Int × List Int × Int × Int :=
  if r.2.2 ≠ 0 then (0, [], 0, r.2.2)
  else if r.1 > 1048576 then (0, [], 0, 2)
  else if (l.length : Int) < 1 + r.2.1 + r.1 + 4 then (0, [], 0, 3)
  else if beV ((l.drop (1 + r.2.1.toNat + r.1.toNat)).take 4) ≠ chk (l.take (1 + r.2.1.toNat + r.1.toNat)) then (0, [], 0, 4)
  else (gI l 0, (l.drop (1 + r.2.1.toNat)).take r.1.toNat, 1 + r.2.1 + r.1 + 4, 0)
def unf (l : List Int) : Int × List Int × Int × Int := if l = [] then (0, [], 0, 3) else unfR l (decU l.tail)
theorem beV32_step {X c : Int} (h0 : 0 ≤ X) (h1 : X < 16777216) (c0 : 0 ≤ c) (c1 : c ≤ 255) : bits BinOp.or IntKind.u32 (X * 256) c = X * 256 + c :=
  bits_join .u32 32 (by decide) (fun n a b => by rw [IntKind.wrap_u32]; omega) 8 (X * 256) c (by omega) (by omega) (by omega) c0 (by omega) (by omega)
theorem beV_take3 (l : List Int) (h : ∀ n ∈ l, (Lit.int .u8 n).wf = true) (j : Nat) (hj : j < 4) : 0 ≤ beV (l.take j) ∧ beV (l.take j) < 16777216 := by
  have := beV_lt (l.take j) (fun n hn => h n (List.mem_of_mem_take hn))
  have hl : (l.take j).length ≤ 3 := by rw [List.length_take]; omega
  have h7 : (256 : Int) ^ (l.take j).length ≤ 16777216 := by
    generalize (l.take j).length = n at hl
    match n, hl with
    | 0, _ => decide
    | 1, _ => decide
    | 2, _ => decide
    | 3, _ => decide
    | n + 4, h => omega
  exact ⟨this.1, Int.lt_of_lt_of_le this.2 h7⟩
end Go.Proofs.Ytigpbfmnbdbpcaa
