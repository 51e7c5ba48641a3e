/- The plain law of the codes of LogLog sketches. No program. -/
import Derived.Test.YthohjekfffebkaaLlB
import Derived.Test.YthohjekfffebkaaReads
import Derived.Test.YthohjekfffebkaaRdw
namespace Go.Proofs.Ythohjekfffebkaa
open Go.RowKit Go.ChangeShapes Go.WideShapes
set_option linter.unusedVariables false
set_option linter.unusedSimpArgs false
def encLl (p z : Int) (l : List Int) : List Int := if llE p l ≠ 0 then [] else encU p ++ (beB 8 z ++ l)
def llDo (p z : Int) (rest : List Int) : Int × Int × List Int × Int := if llE p rest ≠ 0 then (0, 0, [], 2) else (p, z, rest, 0)
/-- Decode, out of the number and the word. -/
def llDr (l : List Int) (r q : Int × Int × Int) : Int × Int × List Int × Int := if r.2.2 ≠ 0 ∨ q.2.2 ≠ 0 then (0, 0, [], 2) else llDo r.1 q.1 (l.drop (r.2.1.toNat + 8))
def llD (l : List Int) : Int × Int × List Int × Int := llDr l (decU l) (decW (l.drop (decU l).2.1.toNat))
theorem wf_regs {p : Int} {l : List Int} (hp : pOK p) (hg : goodR p l) : ∀ c ∈ l, (Lit.int .u8 c).wf = true := fun c hc => by
  have := hg c hc
  obtain ⟨h1, h2⟩ := hp
  exact wf_u8 this.1 (by omega)
theorem encU_one {p : Int} (hp : p < 248) : encU p = [p] := by unfold encU; rw [if_pos hp]
theorem wf_encLl {p z : Int} {l : List Int} : ∀ c ∈ encLl p z l, (Lit.int .u8 c).wf = true := by
  intro c hc
  unfold encLl at hc
  by_cases hv : llE p l = 0
  · rw [if_neg (by simpa using hv)] at hc
    obtain ⟨h1, h2, h3⟩ := llE_ok hv
    simp only [List.mem_append] at hc
    rcases hc with hc | hc | hc
    · exact wf_encU _ (by have := h1.1; omega) c hc
    · exact wf_beB _ _ c hc
    · exact wf_regs h1 h3 c hc
  · rw [if_pos hv] at hc; simp at hc
theorem decW_enc (z : Int) (h0 : 0 ≤ z) (h1 : z < 18446744073709551616) (rest : List Int) : decW (beB 8 z ++ rest) = (z, 8, 0) := by
  unfold decW
  have hl := length_beB 8 z
  rw [if_neg (by rw [List.length_append, hl]; omega), List.take_append_of_le_length (by omega), List.take_of_length_le (by omega), beV_beB 8 z h0 (by simpa using h1)]
theorem llD_back {p z : Int} {l : List Int} (h0 : 0 ≤ z) (h1 : z < 18446744073709551616) (hv : llE p l = 0) : llD (encLl p z l) = (p, z, l, 0) := by
  obtain ⟨e1, e2, e3⟩ := llE_ok hv
  have e4 : 2 ≤ p ∧ p ≤ 8 := e1
  have e : encLl p z l = encU p ++ (beB 8 z ++ l) := by unfold encLl; rw [if_neg (by simpa using hv)]
  have d1 := decU_enc p (by omega) (by omega) (beB 8 z ++ l)
  have d2 := decW_enc z h0 h1 l
  unfold llD
  rw [e, d1]
  simp only [Int.toNat_natCast, List.drop_left]
  rw [d2]
  unfold llDr
  rw [if_neg (by simp)]
  simp only [Int.toNat_natCast]
  rw [← List.drop_drop, List.drop_left, List.drop_append, length_beB, List.drop_of_length_le (by rw [length_beB]; omega)]
  simp only [Nat.sub_self, List.drop_zero, List.nil_append]
  unfold llDo
  rw [if_neg (by simpa using hv)]
/-- A number of one byte. -/
theorem rd_one {l : List Int} (hw : ∀ n ∈ l, (Lit.int .u8 n).wf = true) {most : Int} (hm : most < 248) {k : Nat} :
    (k < l.length ∧ gI l k ≤ most ∧ rdN l most k false = (gI l k, k + 1, false)) ∨ ((l.length ≤ k ∨ gI l k > most) ∧ rdN l most k false = (0, k, true)) := by
  unfold rdN
  by_cases hk : k < l.length
  · have hg : gI (l.drop k) 0 = gI l k := by rw [gI_drop, Nat.add_zero]
    have hne : l.drop k ≠ [] := by rw [ne_eq, List.drop_eq_nil_iff]; omega
    by_cases h1 : gI l k < 248
    · have hd : decU (l.drop k) = (gI l k, 1, 0) := by unfold decU; rw [if_neg hne, hg, if_pos h1]
      rw [hd]
      by_cases h2 : gI l k ≤ most
      · exact .inl ⟨hk, h2, by rw [rdU_ok (by rfl) (by simp only; omega)]; rfl⟩
      · exact .inr ⟨.inr (by omega), rdU_bad (.inr (.inr (by simp only; omega)))⟩
    · refine .inr ⟨.inr (by omega), ?_⟩
      by_cases he : (decU (l.drop k)).2.2 = 0
      · refine rdU_bad (.inr (.inr ?_))
        unfold decU at he ⊢
        rw [if_neg hne, hg, if_neg h1] at he ⊢
        split at he
        · simp at he
        · rename_i h3
          rw [if_neg h3]
          split at he
          · simp at he
          · rename_i h4
            rw [if_neg h4]
            simp only
            omega
      · exact rdU_bad (.inr (.inl he))
  · refine .inr ⟨.inl (by omega), rdU_bad (.inr (.inl ?_))⟩
    rw [List.drop_of_length_le (by omega)]
    decide
/-- Where the loop over the registers stands. -/
def LInv (l : List Int) (p : Int) (k0 : Nat) (b0 : Bool) (i k : Nat) (bad : Bool) (cells : List Int) : Prop :=
  cells.length = i ∧ (∀ x ∈ cells, 0 ≤ x ∧ x ≤ 65) ∧ (bad = false → b0 = false ∧ k = k0 + i ∧ k ≤ l.length ∧ cells = (l.drop k0).take i) ∧ (bad = true → b0 = true ∨ llE p (l.drop k0) ≠ 0)
theorem LInv.start {l : List Int} {p : Int} {k0 : Nat} {b0 : Bool} (h : b0 = false → k0 ≤ l.length) : LInv l p k0 b0 0 k0 b0 [] :=
  ⟨rfl, by simp, fun e => ⟨e, rfl, h e, by simp⟩, fun e => .inl e⟩
theorem llE_short {p : Int} {l : List Int} {i : Nat} (hi : i < p2 p) (h : l.length ≤ i) : llE p l ≠ 0 := fun e => by
  have := (llE_ok e).2.1
  omega
theorem llE_big {p : Int} {l : List Int} {i : Nat} (hi : i < l.length) (h : gI l i > 65) : llE p l ≠ 0 := fun e => by
  obtain ⟨h1, h2, h3⟩ := llE_ok e
  have h4 : 2 ≤ p ∧ p ≤ 8 := h1
  have := h3 _ (gI_mem hi)
  omega
theorem LInv.step {l : List Int} (hw : ∀ n ∈ l, (Lit.int .u8 n).wf = true) {p : Int} {k0 : Nat} {b0 : Bool} {i k : Nat} {cells : List Int} (h : LInv l p k0 b0 i k false cells) (hi : i < p2 p) :
    LInv l p k0 b0 (i + 1) (rdN l 65 k false).2.1 (rdN l 65 k false).2.2 (cells ++ [(rdN l 65 k false).1]) := by
  obtain ⟨h1, h2, h3, h4⟩ := h
  obtain ⟨rfl, rfl, h5, h6⟩ := h3 rfl
  have hg : gI (l.drop k0) i = gI l (k0 + i) := gI_drop _ _ _
  rcases rd_one hw (most := 65) (by decide) (k := k0 + i) with ⟨a1, a2, a3⟩ | ⟨a1, a3⟩
  · have hb := gI_u8 hw (k0 + i)
    rw [a3]
    refine ⟨by simp [h1], ?_, fun _ => ⟨rfl, by simp only; omega, by simp only; omega, ?_⟩, fun e => by cases e⟩
    · intro x hx
      rcases List.mem_append.1 hx with hx | hx
      · exact h2 x hx
      · rw [List.mem_singleton.1 hx]; exact ⟨hb.1, a2⟩
    · rw [take_succ_gI (by rw [List.length_drop]; omega), hg, ← h6]
  · rw [a3]
    refine ⟨by simp [h1], ?_, fun e => (by cases e), fun _ => .inr ?_⟩
    · intro x hx
      rcases List.mem_append.1 hx with hx | hx
      · exact h2 x hx
      · rw [List.mem_singleton.1 hx]; omega
    · by_cases h7 : k0 + i < l.length
      · exact llE_big (i := i) (by rw [List.length_drop]; omega) (by rw [hg]; rcases a1 with a1 | a1 <;> omega)
      · exact llE_short hi (by rw [List.length_drop]; omega)
/-- What the reference returns at the loop's end. -/
def llRef (l : List Int) (p z : Int) (k : Nat) (bad : Bool) (cells : List Int) : Int × Int × List Int × Int := if bad = true ∨ k ≠ l.length ∨ llE p cells ≠ 0 then (0, 0, [], 2) else (p, z, cells, 0)
theorem llRef_law {l : List Int} (hw : ∀ n ∈ l, (Lit.int .u8 n).wf = true) {p z : Int} {k0 k i : Nat} {b0 bad : Bool} {cells : List Int}
    (hp : p = (rdN l 8 0 false).1) (hz : z = (rdW l (rdN l 8 0 false).2.1 (rdN l 8 0 false).2.2).1) (hk : k0 = (rdW l (rdN l 8 0 false).2.1 (rdN l 8 0 false).2.2).2.1) (hb : b0 = (rdW l (rdN l 8 0 false).2.1 (rdN l 8 0 false).2.2).2.2)
    (h : LInv l p k0 b0 i k bad cells) (he : bad = false → i = p2 p) : llRef l p z k bad cells = llD l := by
  obtain ⟨h1, h2, h3, h4⟩ := h
  have hd0 : l.drop 0 = l := rfl
  have herr : llE (decU l).1 (l.drop ((decU l).2.1.toNat + 8)) ≠ 0 → llD l = (0, 0, [], 2) := fun e => by
    unfold llD llDr
    split
    · rfl
    · unfold llDo; rw [if_pos e]
  unfold rdN at hp hz hk hb
  rw [hd0] at hp hz hk hb
  by_cases e1 : (decU l).2.2 = 0
  · by_cases m1 : (decU l).1 > 8
    · rw [rdU_bad (.inr (.inr m1))] at hp hz hk hb
      simp only [rdW, rdWu_bad (.inl rfl)] at hb
      subst hb
      have hbt : bad = true := by
        cases bad
        · have := (h3 rfl).1; cases this
        · rfl
      rw [herr (fun e => by have := (llE_ok e).1.2; omega)]
      unfold llRef; rw [if_pos (.inl hbt)]
    · rw [rdU_ok e1 m1] at hp hz hk hb
      simp only [Nat.zero_add] at hp hz hk hb
      unfold rdW at hz hk hb
      by_cases e2 : (decW (l.drop (decU l).2.1.toNat)).2.2 = 0
      · rw [rdWu_ok e2] at hz hk hb
        have ho := decW_ok e2
        rw [ho.1] at hk
        have hk' : k0 = (decU l).2.1.toNat + 8 := hk
        have hlD : llD l = llDo p z (l.drop k0) := by
          unfold llD llDr
          rw [if_neg (by simp [e1, e2]), ← hk', hp, hz]
        rw [hlD]
        cases bad
        · obtain ⟨-, h5, h6, h7⟩ := h3 rfl
          have hi := he rfl
          unfold llRef llDo
          by_cases h8 : k = l.length
          · have h9 : cells = l.drop k0 := by rw [h7, List.take_of_length_le (by rw [List.length_drop]; omega)]
            rw [h9]
            by_cases hv : llE p (l.drop k0) = 0
            · rw [if_neg (by simp [h8, hv]), if_neg (by simpa using hv)]
            · rw [if_pos (.inr (.inr hv)), if_pos hv]
          · rw [if_pos (.inr (.inl h8)), if_pos]
            intro e
            have h10 := (llE_ok e).2.1
            rw [List.length_drop] at h10
            omega
        · have h5 := (h4 rfl).resolve_left (by rw [hb]; simp)
          unfold llRef llDo
          rw [if_pos (.inl rfl), if_pos h5]
      · rw [rdWu_bad (.inr e2)] at hb
        simp only at hb
        subst hb
        have hbt : bad = true := by
          cases bad
          · have := (h3 rfl).1; cases this
          · rfl
        unfold llRef llD llDr
        rw [if_pos (.inl hbt), if_pos (.inr e2)]
  · rw [rdU_bad (.inr (.inl e1))] at hb
    simp only [rdW, rdWu_bad (.inl rfl)] at hb
    subst hb
    have hbt : bad = true := by
      cases bad
      · have := (h3 rfl).1; cases this
      · rfl
    unfold llRef llD llDr
    rw [if_pos (.inl hbt), if_pos (.inl e1)]
end Go.Proofs.Ythohjekfffebkaa
