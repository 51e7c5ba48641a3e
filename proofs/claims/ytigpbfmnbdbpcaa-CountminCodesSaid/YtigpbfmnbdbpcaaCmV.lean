/- The plain law of the codes of Count-Min sketches. No program. -/
import Derived.Test.YtigpbfmnbdbpcaaCmB
import Derived.Test.YtigpbfmnbdbpcaaReads
import Derived.Test.YtigpbfmnbdbpcaaRdw
namespace Go.Proofs.Ytigpbfmnbdbpcaa
open Go.RowKit Go.ChangeShapes Go.WideShapes
set_option linter.unusedVariables false
set_option linter.unusedSimpArgs false
def encCm (d s z : Int) (l : List Int) (b : Bool) : List Int := if cmE d s l ≠ 0 then [] else encU d ++ encU s ++ beB 8 z ++ l.flatMap encU ++ [if b then 1 else 0]
theorem rdN_true (l : List Int) (most : Int) (k : Nat) : rdN l most k true = (0, k, true) := rdU_bad (.inl rfl)
theorem rdW_true (l : List Int) (k : Nat) : rdW l k true = (0, k, true) := rdWu_bad (.inl rfl)
/-- Numbers read one after another. -/
def itN (l : List Int) (most : Int) (k0 : Nat) (b0 : Bool) : Nat → List Int × Nat × Bool
  | 0 => ([], k0, b0)
  | i + 1 => ((itN l most k0 b0 i).1 ++ [(rdN l most (itN l most k0 b0 i).2.1 (itN l most k0 b0 i).2.2).1], (rdN l most (itN l most k0 b0 i).2.1 (itN l most k0 b0 i).2.2).2)
theorem itN_succ (l : List Int) (most : Int) (k0 : Nat) (b0 : Bool) (i : Nat) : itN l most k0 b0 (i + 1) = ((itN l most k0 b0 i).1 ++ [(rdN l most (itN l most k0 b0 i).2.1 (itN l most k0 b0 i).2.2).1], (rdN l most (itN l most k0 b0 i).2.1 (itN l most k0 b0 i).2.2).2) := rfl
theorem itN_len (l : List Int) (most : Int) (k0 : Nat) (b0 : Bool) (i : Nat) : (itN l most k0 b0 i).1.length = i := by
  induction i with
  | zero => rfl
  | succ i ih => rw [itN_succ]; simp [ih]
theorem itN_true (l : List Int) (most : Int) (k0 : Nat) (i : Nat) : (itN l most k0 true i).2 = (k0, true) := by
  induction i with
  | zero => rfl
  | succ i ih => rw [itN_succ, ih]; simp only [rdN_true]
theorem itN_bad_up (l : List Int) (most : Int) (k0 : Nat) (b0 : Bool) (i j : Nat) (hij : i ≤ j) (h : (itN l most k0 b0 i).2.2 = true) : (itN l most k0 b0 j).2.2 = true := by
  induction j with
  | zero => rwa [Nat.le_zero.1 hij] at h
  | succ j ih =>
    by_cases e : i = j + 1
    · rw [← e]; exact h
    · have := ih (by omega)
      rw [itN_succ, this]; simp only [rdN_true]
theorem itN_pre (l : List Int) (most : Int) (k0 : Nat) (b0 : Bool) (i j : Nat) (hij : i ≤ j) : ∀ x ∈ (itN l most k0 b0 i).1, x ∈ (itN l most k0 b0 j).1 := by
  induction j with
  | zero => rw [Nat.le_zero.1 hij]; exact fun x h => h
  | succ j ih =>
    by_cases e : i = j + 1
    · rw [← e]; exact fun x h => h
    · intro x hx
      rw [itN_succ]
      exact List.mem_append.2 (.inl (ih (by omega) x hx))
theorem rdN_sim {l : List Int} (hw : ∀ n ∈ l, (Lit.int .u8 n).wf = true) {most : Int} (hm : most ≤ 4611686018427387904) (k : Nat) :
    (rdN l most k false = rdN l 4611686018427387904 k false ∧ (rdN l most k false).2.2 = false ∧ 0 ≤ (rdN l most k false).1 ∧ (rdN l most k false).1 ≤ most) ∨
    (rdN l most k false = (0, k, true) ∧ ((rdN l 4611686018427387904 k false).2.2 = true ∨ (rdN l 4611686018427387904 k false).1 > most)) := by
  unfold rdN
  by_cases he : (decU (l.drop k)).2.2 = 0
  · have ho := decU_ok (l := l.drop k) (wf_drop hw k) (n := (decU (l.drop k)).1) (k := (decU (l.drop k)).2.1) (by rw [← he])
    rw [rdU_ok (most := 4611686018427387904) he (by omega)]
    by_cases h : (decU (l.drop k)).1 > most
    · exact .inr ⟨rdU_bad (.inr (.inr h)), .inr h⟩
    · rw [rdU_ok he h]
      exact .inl ⟨rfl, rfl, ho.1, by simp only; omega⟩
  · exact .inr ⟨rdU_bad (.inr (.inl he)), .inl (by rw [rdU_bad (.inr (.inl he))])⟩
/-- What was read is encoded as the bytes that were read. -/
theorem rdN_snd {l : List Int} (hw : ∀ n ∈ l, (Lit.int .u8 n).wf = true) {most : Int} {k : Nat} (hk : k ≤ l.length) (h : (rdN l most k false).2.2 = false) :
    0 ≤ (rdN l most k false).1 ∧ (rdN l most k false).1 ≤ 4611686018427387904 ∧ (rdN l most k false).2.1 ≤ l.length ∧ l.take (rdN l most k false).2.1 = l.take k ++ encU (rdN l most k false).1 := by
  unfold rdN at *
  by_cases he : (decU (l.drop k)).2.2 = 0
  · have hd : decU (l.drop k) = ((decU (l.drop k)).1, (decU (l.drop k)).2.1, 0) := by rw [← he]
    have ho := decU_ok (wf_drop hw k) hd
    have hc := decU_canon (wf_drop hw k) hd
    rw [List.length_drop] at ho
    by_cases hm : (decU (l.drop k)).1 > most
    · rw [rdU_bad (.inr (.inr hm))] at h; cases h
    · rw [rdU_ok he hm]
      refine ⟨ho.1, ho.2.1, by simp only; omega, ?_⟩
      simp only
      rw [hc, List.take_add]
  · rw [rdU_bad (.inr (.inl he))] at h; cases h
theorem rdW_snd {l : List Int} (hw : ∀ n ∈ l, (Lit.int .u8 n).wf = true) {k : Nat} (hk : k ≤ l.length) (h : (rdW l k false).2.2 = false) :
    (rdW l k false).2.1 ≤ l.length ∧ l.take (rdW l k false).2.1 = l.take k ++ beB 8 (rdW l k false).1 := by
  unfold rdW at *
  by_cases he : (decW (l.drop k)).2.2 = 0
  · obtain ⟨h1, h2, h3⟩ := decW_ok he
    rw [List.length_drop] at h2
    rw [rdWu_ok he]
    refine ⟨by simp only; omega, ?_⟩
    simp only
    have h4 : ((l.drop k).take 8).length = 8 := by rw [List.length_take, List.length_drop]; omega
    rw [h3, h1, beB_beV 8 _ h4 (fun n hn => wf_drop hw k n (List.mem_of_mem_take hn))]
    exact List.take_add
  · rw [rdWu_bad (.inr he)] at h; cases h
theorem itN_snd {l : List Int} (hw : ∀ n ∈ l, (Lit.int .u8 n).wf = true) {most : Int} {k0 : Nat} (hk : k0 ≤ l.length) (i : Nat) (h : (itN l most k0 false i).2.2 = false) :
    (itN l most k0 false i).2.1 ≤ l.length ∧ l.take (itN l most k0 false i).2.1 = l.take k0 ++ (itN l most k0 false i).1.flatMap encU := by
  induction i with
  | zero => exact ⟨hk, by simp [itN]⟩
  | succ i ih =>
    have hb : (itN l most k0 false i).2.2 = false := by
      cases hb : (itN l most k0 false i).2.2
      · rfl
      · rw [itN_bad_up l most k0 false i (i + 1) (by omega) hb] at h; cases h
    obtain ⟨h1, h2⟩ := ih hb
    rw [itN_succ] at h ⊢
    rw [hb] at h ⊢
    obtain ⟨-, -, h3, h4⟩ := rdN_snd hw h1 h
    refine ⟨h3, ?_⟩
    simp only at h4 ⊢
    rw [h4, h2, List.flatMap_append]
    simp
theorem itN_sim {l : List Int} (hw : ∀ n ∈ l, (Lit.int .u8 n).wf = true) (k0 : Nat) (i : Nat) :
    ((itN l 4294967295 k0 false i).2.2 = false → itN l 4294967295 k0 false i = itN l 4611686018427387904 k0 false i ∧ goodL (itN l 4294967295 k0 false i).1) ∧
    ((itN l 4294967295 k0 false i).2.2 = true → (itN l 4611686018427387904 k0 false i).2.2 = true ∨ ¬ goodL (itN l 4611686018427387904 k0 false i).1) := by
  induction i with
  | zero => exact ⟨fun _ => ⟨rfl, fun x hx => by simp [itN] at hx⟩, fun h => by simp [itN] at h⟩
  | succ i ih =>
    obtain ⟨h1, h2⟩ := ih
    cases hb : (itN l 4294967295 k0 false i).2.2
    · obtain ⟨h3, h4⟩ := h1 hb
      rw [itN_succ, itN_succ, ← h3, hb]
      rcases rdN_sim hw (most := 4294967295) (by decide) (itN l 4294967295 k0 false i).2.1 with ⟨a1, a2, a3, a4⟩ | ⟨a1, a2⟩
      · refine ⟨fun _ => ⟨by rw [a1], ?_⟩, fun h => (by rw [a2] at h; cases h)⟩
        intro x hx
        rcases List.mem_append.1 hx with hx | hx
        · exact h4 x hx
        · rw [List.mem_singleton.1 hx]; exact ⟨a3, a4⟩
      · refine ⟨fun h => (by rw [a1] at h; cases h), fun _ => ?_⟩
        rcases a2 with a2 | a2
        · exact .inl a2
        · refine .inr fun hg => ?_
          have := hg _ (List.mem_append.2 (.inr (List.mem_singleton.2 rfl)))
          omega
    · refine ⟨fun h => ?_, fun _ => ?_⟩
      · rw [itN_bad_up l _ k0 false i (i + 1) (by omega) hb] at h; cases h
      · rcases h2 hb with h | h
        · exact .inl (itN_bad_up l _ k0 false i (i + 1) (by omega) h)
        · exact .inr fun hg => h fun x hx => hg x (itN_pre l _ k0 false i (i + 1) (by omega) x hx)
theorem cmE_ok {d s : Int} {l : List Int} (h : cmE d s l = 0) : sizB d s ∧ (l.length : Int) = d * s ∧ goodL l := by
  unfold cmE at h
  split at h
  · omega
  · rename_i h1
    split at h
    · omega
    · rename_i h2
      split at h
      · omega
      · rename_i h3
        exact ⟨by simpa using h1, by omega, by simpa using h3⟩
def cmP1 (l : List Int) : Int × Nat × Bool := rdN l 4611686018427387904 0 false
def cmP2 (l : List Int) : Int × Nat × Bool := rdN l 4611686018427387904 (cmP1 l).2.1 (cmP1 l).2.2
def cmPw (l : List Int) : Int × Nat × Bool := rdW l (cmP2 l).2.1 (cmP2 l).2.2
def cmN (l : List Int) : Nat := ((cmP1 l).1 * (cmP2 l).1).toNat
def cmPi (l : List Int) (i : Nat) : List Int × Nat × Bool := itN l 4611686018427387904 (cmPw l).2.1 (cmPw l).2.2 i
def cmPf (l : List Int) : Int × Nat × Bool := rdN l 4611686018427387904 (cmPi l (cmN l)).2.1 (cmPi l (cmN l)).2.2
def cmPl (l : List Int) (d s z : Int) (cells : List Int) (f : Int) (bad : Bool) : Int × Int × Int × List Int × Bool × Int :=
  if bad = true ∨ cmE d s cells ≠ 0 ∨ encCm d s z cells (f == 1) ≠ l then (0, 0, 0, [], false, 2) else (d, s, z, cells, f == 1, 0)
/-- Decode. -/
def cmD (l : List Int) : Int × Int × Int × List Int × Bool × Int := cmPl l (cmP1 l).1 (cmP2 l).1 (cmPw l).1 (cmPi l (cmN l)).1 (cmPf l).1 (cmPf l).2.2
def cmQ1 (l : List Int) : Int × Nat × Bool := rdN l 8 0 false
def cmQ2 (l : List Int) : Int × Nat × Bool := rdN l 64 (cmQ1 l).2.1 (cmQ1 l).2.2
def cmQw (l : List Int) : Int × Nat × Bool := rdW l (cmQ2 l).2.1 (cmQ2 l).2.2
def cmQi (l : List Int) (i : Nat) : List Int × Nat × Bool := itN l 4294967295 (cmQw l).2.1 (cmQw l).2.2 i
def cmQf (l : List Int) (i : Nat) : Int × Nat × Bool := rdN l 1 (cmQi l i).2.1 (cmQi l i).2.2
def cmRf (l : List Int) (d s z : Int) (cells : List Int) (f : Int) (k : Nat) (bad : Bool) : Int × Int × Int × List Int × Bool × Int :=
  if bad = true ∨ k ≠ l.length ∨ cmE d s cells ≠ 0 then (0, 0, 0, [], false, 2) else (d, s, z, cells, f == 1, 0)
theorem cmPl_bad {l : List Int} {d s z : Int} {cells : List Int} {f : Int} {bad : Bool} (h : bad = true ∨ cmE d s cells ≠ 0 ∨ encCm d s z cells (f == 1) ≠ l) : cmPl l d s z cells f bad = (0, 0, 0, [], false, 2) := by unfold cmPl; rw [if_pos h]
theorem cmRf_bad {l : List Int} {d s z : Int} {cells : List Int} {f : Int} {k : Nat} {bad : Bool} (h : bad = true ∨ k ≠ l.length ∨ cmE d s cells ≠ 0) : cmRf l d s z cells f k bad = (0, 0, 0, [], false, 2) := by unfold cmRf; rw [if_pos h]
theorem cmD_w {l : List Int} (h : (cmPw l).2.2 = true) : cmD l = (0, 0, 0, [], false, 2) := by
  unfold cmD
  refine cmPl_bad (.inl ?_)
  unfold cmPf cmPi
  rw [h, itN_true]
  simp only [rdN_true]
theorem cmD_siz {l : List Int} (h : ¬ sizB (cmP1 l).1 (cmP2 l).1) : cmD l = (0, 0, 0, [], false, 2) := by
  unfold cmD
  exact cmPl_bad (.inr (.inl fun e => h (cmE_ok e).1))
theorem cmQ_bad {l : List Int} {i : Nat} (h : (cmQi l i).2.2 = true) : (cmQf l i).2.2 = true := by unfold cmQf; rw [h, rdN_true]
theorem encB_eq {f : Int} (h0 : 0 ≤ f) (h1 : f ≤ 1) : encU f = [if (f == 1) = true then 1 else 0] := by
  have : f = 0 ∨ f = 1 := by omega
  rcases this with rfl | rfl <;> decide
theorem cm_law {l : List Int} (hw : ∀ n ∈ l, (Lit.int .u8 n).wf = true) (i : Nat) (hi : (cmQi l i).2.2 = false → i = ((cmQ1 l).1 * (cmQ2 l).1).toNat) (hi2 : i ≤ ((cmQ1 l).1 * (cmQ2 l).1).toNat) :
    cmRf l (cmQ1 l).1 (cmQ2 l).1 (cmQw l).1 (cmQi l i).1 (cmQf l i).1 (cmQf l i).2.1 (cmQf l i).2.2 = cmD l := by
  have hz : (0 : Nat) ≤ l.length := by omega
  have s1 := fun h => rdN_snd hw (most := 4611686018427387904) hz h
  rcases rdN_sim hw (most := 8) (by decide) 0 with ⟨a1, a2, a3, a4⟩ | ⟨a1, a2⟩
  · have e1 : cmQ1 l = cmP1 l := a1
    have b1 : (cmP1 l).2.2 = false := by rw [← e1]; exact a2
    obtain ⟨-, -, s1a, s1b⟩ := s1 b1
    change (cmP1 l).2.1 ≤ l.length at s1a
    change l.take (cmP1 l).2.1 = l.take 0 ++ encU (cmP1 l).1 at s1b
    rcases rdN_sim hw (most := 64) (by decide) (cmP1 l).2.1 with ⟨c1, c2, c3, c4⟩ | ⟨c1, c2⟩
    · have e2 : cmQ2 l = cmP2 l := by unfold cmQ2 cmP2; rw [e1, b1]; exact c1
      have b2 : (cmP2 l).2.2 = false := by rw [← e2]; unfold cmQ2; rw [e1, b1]; exact c2
      have s2 := rdN_snd hw (most := 4611686018427387904) s1a (by rw [← b1]; rw [b1]; have := b2; unfold cmP2 at this; rw [b1] at this; exact this)
      have hp2 : cmP2 l = rdN l 4611686018427387904 (cmP1 l).2.1 false := by unfold cmP2; rw [b1]
      rw [← hp2] at s2
      obtain ⟨-, -, s2a, s2b⟩ := s2
      have e3 : cmQw l = cmPw l := by unfold cmQw cmPw; rw [e2]
      cases b3 : (cmPw l).2.2
      · have hpw : cmPw l = rdW l (cmP2 l).2.1 false := by unfold cmPw; rw [b2]
        obtain ⟨s3a, s3b⟩ := rdW_snd hw s2a (by rw [← hpw]; exact b3)
        rw [← hpw] at s3a s3b
        have hQ : cmQi l i = itN l 4294967295 (cmPw l).2.1 false i := by unfold cmQi; rw [e3, b3]
        have hP : ∀ j, cmPi l j = itN l 4611686018427387904 (cmPw l).2.1 false j := fun j => by unfold cmPi; rw [b3]
        obtain ⟨m1, m2⟩ := itN_sim hw (cmPw l).2.1 i
        rw [← hQ, ← hP] at m1 m2
        have hN : ((cmQ1 l).1 * (cmQ2 l).1).toNat = cmN l := by unfold cmN; rw [e1, e2]
        rw [hN] at hi hi2
        cases b4 : (cmQi l i).2.2
        · obtain ⟨e4, hg⟩ := m1 b4
          obtain rfl := hi b4
          have b5 : (cmPi l (cmN l)).2.2 = false := by rw [← e4]; exact b4
          have s5 := itN_snd hw s3a (cmN l) (most := 4611686018427387904) (by rw [← hP]; exact b5)
          rw [← hP] at s5
          obtain ⟨s5a, s5b⟩ := s5
          have hpf : cmPf l = rdN l 4611686018427387904 (cmPi l (cmN l)).2.1 false := by unfold cmPf; rw [b5]
          have hpre : l.take (cmPi l (cmN l)).2.1 = encU (cmP1 l).1 ++ encU (cmP2 l).1 ++ beB 8 (cmPw l).1 ++ (cmPi l (cmN l)).1.flatMap encU := by
            rw [s5b, s3b, s2b, s1b]; simp
          have henc : ∀ b : Bool, cmE (cmP1 l).1 (cmP2 l).1 (cmPi l (cmN l)).1 = 0 → encCm (cmP1 l).1 (cmP2 l).1 (cmPw l).1 (cmPi l (cmN l)).1 b = l.take (cmPi l (cmN l)).2.1 ++ [if b then 1 else 0] := fun b h => by
            unfold encCm; rw [if_neg (by simpa using h), hpre]
          rcases rdN_sim hw (most := 1) (by decide) (cmPi l (cmN l)).2.1 with ⟨f1, f2, f3, f4⟩ | ⟨f1, f2⟩
          · have e6 : cmQf l (cmN l) = cmPf l := by unfold cmQf; rw [e4, b5, hpf]; exact f1
            have f0 : cmPf l = rdN l 1 (cmPi l (cmN l)).2.1 false := by rw [hpf]; exact f1.symm
            rw [← f0] at f2 f3 f4
            have s6 := rdN_snd hw s5a (most := 4611686018427387904) (by rw [← hpf]; exact f2)
            rw [← hpf] at s6
            obtain ⟨-, -, s6a, s6b⟩ := s6
            rw [encB_eq f3 f4] at s6b
            rw [e1, e2, e3, e4, e6]
            unfold cmD
            by_cases hv : cmE (cmP1 l).1 (cmP2 l).1 (cmPi l (cmN l)).1 = 0
            · have he := henc ((cmPf l).1 == 1) hv
              rw [← s6b] at he
              unfold cmRf cmPl
              by_cases hl : (cmPf l).2.1 = l.length
              · rw [List.take_of_length_le (by omega)] at he
                rw [if_neg (by simp [f2, hl, hv]), if_neg (by simp [f2, hv, he])]
              · rw [if_pos (.inr (.inl hl)), if_pos]
                refine .inr (.inr ?_)
                rw [he]
                intro e
                have := congrArg List.length e
                rw [List.length_take] at this
                omega
            · rw [cmRf_bad (.inr (.inr hv)), cmPl_bad (.inr (.inl hv))]
          · rw [cmRf_bad (.inl (by unfold cmQf; rw [e4, b5, f1]))]
            unfold cmD
            rw [cmPl_bad]
            rw [← hpf] at f2
            rcases f2 with f2 | f2
            · exact .inl f2
            · cases b6 : (cmPf l).2.2
              · refine .inr (Classical.or_iff_not_imp_left.2 fun hv => ?_)
                have hv' : cmE (cmP1 l).1 (cmP2 l).1 (cmPi l (cmN l)).1 = 0 := Classical.not_not.1 hv
                have s6 := rdN_snd hw s5a (most := 4611686018427387904) (by rw [← hpf]; exact b6)
                rw [← hpf] at s6
                obtain ⟨s60, s61, s6a, s6b⟩ := s6
                rw [henc _ hv']
                intro e
                have e7 : l = l.take (cmPi l (cmN l)).2.1 ++ (encU (cmPf l).1 ++ l.drop (cmPf l).2.1) := by
                  rw [← List.append_assoc, ← s6b, List.take_append_drop]
                rw [e7] at e
                conv at e => lhs; rw [← e7]
                have e8 := List.append_cancel_left e
                have e9 : (if ((cmPf l).1 == 1) = true then (1 : Int) else 0) = 0 ∨ (if ((cmPf l).1 == 1) = true then (1 : Int) else 0) = 1 := by split <;> simp
                generalize (if ((cmPf l).1 == 1) = true then (1 : Int) else 0) = B at *
                have e10 : encU B = [B] := by rcases e9 with rfl | rfl <;> decide
                rw [← e10] at e8
                have := encU_ne B (cmPf l).1 (by omega) (by omega) (by omega) (by omega) [] (l.drop (cmPf l).2.1) (by rw [List.append_nil]; exact e8)
                omega
              · exact .inl rfl
        · rw [cmRf_bad (.inl (cmQ_bad b4))]
          unfold cmD
          rw [cmPl_bad]
          rcases m2 b4 with h | h
          · refine .inl ?_
            have := itN_bad_up l 4611686018427387904 (cmPw l).2.1 false i (cmN l) hi2 (by rw [← hP]; exact h)
            rw [← hP] at this
            unfold cmPf
            rw [this, rdN_true]
          · refine .inr (.inl fun e => h fun x hx => (cmE_ok e).2.2 x ?_)
            rw [hP] at hx ⊢
            exact itN_pre l _ _ false i (cmN l) hi2 x hx
      · rw [cmD_w b3, cmRf_bad]
        refine .inl (cmQ_bad ?_)
        unfold cmQi
        rw [e3, b3, itN_true]
    · have b2 : (cmQ2 l).2.2 = true := by unfold cmQ2; rw [e1, b1, c1]
      have bw : (cmQw l).2.2 = true := by unfold cmQw; rw [b2, rdW_true]
      rw [cmRf_bad (.inl (cmQ_bad (by unfold cmQi; rw [bw, itN_true])))]
      have hp2 : cmP2 l = rdN l 4611686018427387904 (cmP1 l).2.1 false := by unfold cmP2; rw [b1]
      rw [← hp2] at c2
      rcases c2 with c2 | c2
      · exact (cmD_w (by unfold cmPw; rw [c2, rdW_true])).symm
      · exact (cmD_siz (fun h => by have := h.2.2.2; omega)).symm
  · have b1 : (cmQ1 l).2.2 = true := by unfold cmQ1; rw [a1]
    have b2 : (cmQ2 l).2.2 = true := by unfold cmQ2; rw [b1, rdN_true]
    have bw : (cmQw l).2.2 = true := by unfold cmQw; rw [b2, rdW_true]
    rw [cmRf_bad (.inl (cmQ_bad (by unfold cmQi; rw [bw, itN_true])))]
    change (cmP1 l).2.2 = true ∨ (cmP1 l).1 > 8 at a2
    rcases a2 with a2 | a2
    · exact (cmD_w (by unfold cmPw; rw [show (cmP2 l).2.2 = true by unfold cmP2; rw [a2, rdN_true], rdW_true])).symm
    · exact (cmD_siz (fun h => by have := h.2.1; omega)).symm
theorem rdN_fwd {l rest : List Int} {n : Int} {k : Nat} (h0 : 0 ≤ n) (h1 : n ≤ 4611686018427387904) (h : l.drop k = encU n ++ rest) :
    rdN l 4611686018427387904 k false = (n, k + (encU n).length, false) ∧ l.drop (k + (encU n).length) = rest := by
  have hd := decU_enc n h0 h1 rest
  constructor
  · unfold rdN
    rw [h, hd, rdU_ok rfl (by simp only; omega)]
    simp
  · rw [← List.drop_drop, h, List.drop_left]
theorem rdW_fwd {l rest : List Int} {z : Int} {k : Nat} (h0 : 0 ≤ z) (h1 : z < 18446744073709551616) (h : l.drop k = beB 8 z ++ rest) :
    rdW l k false = (z, k + 8, false) ∧ l.drop (k + 8) = rest := by
  have hl := length_beB 8 z
  constructor
  · unfold rdW
    have hd : decW (beB 8 z ++ rest) = (z, 8, 0) := by
      unfold decW
      rw [if_neg (by rw [List.length_append, hl]; omega), List.take_append_of_le_length (by omega), List.take_of_length_le (by omega), beV_beB 8 z h0 (by simpa using h1)]
    rw [h, hd, rdWu_ok rfl]
    rfl
  · rw [← List.drop_drop, h, List.drop_append, List.drop_of_length_le (by omega), hl]; simp
theorem itN_fwd {l cells rest : List Int} {k0 : Nat} (hg : ∀ x ∈ cells, 0 ≤ x ∧ x ≤ 4611686018427387904) (h : l.drop k0 = cells.flatMap encU ++ rest) (i : Nat) (hi : i ≤ cells.length) :
    itN l 4611686018427387904 k0 false i = (cells.take i, k0 + ((cells.take i).flatMap encU).length, false) ∧ l.drop (k0 + ((cells.take i).flatMap encU).length) = (cells.drop i).flatMap encU ++ rest := by
  induction i with
  | zero => exact ⟨by simp [itN], by simpa using h⟩
  | succ i ih =>
    obtain ⟨h1, h2⟩ := ih (by omega)
    have hlt : i < cells.length := by omega
    have hx := hg _ (gI_mem hlt)
    rw [List.drop_eq_getElem_cons hlt, List.flatMap_cons, List.append_assoc, ← gI_eq hlt] at h2
    obtain ⟨h3, h4⟩ := rdN_fwd hx.1 hx.2 h2
    have ht : ((cells.take (i + 1)).flatMap encU).length = ((cells.take i).flatMap encU).length + (encU (gI cells i)).length := by
      rw [take_succ_gI hlt, List.flatMap_append, List.length_append]; simp
    rw [itN_succ, h1]
    simp only
    rw [h3, ht, ← Nat.add_assoc]
    refine ⟨?_, h4⟩
    rw [take_succ_gI hlt]
theorem cmD_back {d s z : Int} {l : List Int} {b : Bool} (h0 : 0 ≤ z) (h1 : z < 18446744073709551616) (hv : cmE d s l = 0) : cmD (encCm d s z l b) = (d, s, z, l, b, 0) := by
  obtain ⟨⟨d1, d2, s1, s2⟩, hl, hg⟩ := cmE_ok hv
  have e : encCm d s z l b = encU d ++ (encU s ++ (beB 8 z ++ (l.flatMap encU ++ (encU (if b then 1 else 0) ++ [])))) := by
    unfold encCm; rw [if_neg (by simpa using hv)]
    cases b <;> simp [encU]
  obtain ⟨L, hL⟩ : ∃ L, L = encCm d s z l b := ⟨_, rfl⟩
  have hE := hL
  rw [e] at hL
  have k0 : L.drop 0 = encU d ++ (encU s ++ (beB 8 z ++ (l.flatMap encU ++ (encU (if b then 1 else 0) ++ [])))) := hL
  obtain ⟨p1, k1⟩ := rdN_fwd (by omega) (by omega) k0
  obtain ⟨p2, k2⟩ := rdN_fwd (by omega) (by omega) k1
  obtain ⟨p3, k3⟩ := rdW_fwd h0 h1 k2
  obtain ⟨p4, k4⟩ := itN_fwd (fun x hx => by have := hg x hx; omega) k3 l.length (Nat.le_refl _)
  rw [List.drop_length, List.take_length, List.flatMap_nil, List.nil_append] at k4
  rw [List.take_length] at p4
  obtain ⟨p5, k5⟩ := rdN_fwd (by split <;> omega) (by split <;> omega) k4
  have q1 : cmP1 L = (d, 0 + (encU d).length, false) := p1
  have q2 : cmP2 L = (s, 0 + (encU d).length + (encU s).length, false) := by unfold cmP2; rw [q1]; exact p2
  have q3 : cmPw L = (z, 0 + (encU d).length + (encU s).length + 8, false) := by unfold cmPw; rw [q2]; exact p3
  have qn : cmN L = l.length := by unfold cmN; rw [q1, q2]; simp only; omega
  have q4 : cmPi L (cmN L) = (l, 0 + (encU d).length + (encU s).length + 8 + (l.flatMap encU).length, false) := by unfold cmPi; rw [q3, qn]; exact p4
  have q5 : cmPf L = ((if b then 1 else 0), 0 + (encU d).length + (encU s).length + 8 + (l.flatMap encU).length + (encU (if b then 1 else 0)).length, false) := by unfold cmPf; rw [q4]; exact p5
  rw [← hE]
  unfold cmD
  rw [q1, q2, q3, q4, q5]
  simp only
  have hb : ((if b = true then (1 : Int) else 0) == 1) = b := by cases b <;> decide
  unfold cmPl
  rw [hb]
  rw [if_neg (by simp [hv, ← hE])]
theorem wf_encCm {d s z : Int} {l : List Int} {b : Bool} : ∀ c ∈ encCm d s z l b, (Lit.int .u8 c).wf = true := by
  intro c hc
  unfold encCm at hc
  by_cases hv : cmE d s l = 0
  · rw [if_neg (by simpa using hv)] at hc
    obtain ⟨⟨d1, d2, s1, s2⟩, hl, hg⟩ := cmE_ok hv
    simp only [List.mem_append, List.mem_singleton, List.mem_flatMap] at hc
    rcases hc with (((hc | hc) | hc) | ⟨x, hx, hc⟩) | hc
    · exact wf_encU _ (by omega) c hc
    · exact wf_encU _ (by omega) c hc
    · exact wf_beB _ _ c hc
    · exact wf_encU _ (hg x hx).1 c hc
    · subst hc; cases b <;> exact wf_u8 (by simp) (by simp)
  · rw [if_pos hv] at hc; simp at hc
end Go.Proofs.Ytigpbfmnbdbpcaa
