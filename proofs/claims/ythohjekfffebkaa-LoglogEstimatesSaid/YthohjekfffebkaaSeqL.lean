/- A region that draws its order and ends in one operation that waits for all others: the condition on the world need not be shown behind that one. No condition. -/
import Derived.Test.YthohjekfffebkaaSeq2
namespace Go.Proofs.Ythohjekfffebkaa
open Go.RowKit
set_option linter.unusedVariables false
set_option linter.unusedSimpArgs false
section
variable {P : Program} {ops : Array Oper} {Q : Exit → Act → World → Prop} {md : Region.Mode} {S : World → Prop} {L : Nat}
/-- Operation m waits for operation k. -/
def waitB (md : Region.Mode) (ops : Array Oper) (m k : Nat) : Bool :=
  match ops[m]? with
  | some o => o.after.any fun e => Region.binds md e && e.on == k
  | none => false
def needs (md : Region.Mode) (ops : Array Oper) : Nat → List Nat → List Nat
  | 0, acc => acc
  | k + 1, acc => needs md ops k (if acc.any (fun m => waitB md ops m k) then k :: acc else acc)
/-- What is listed has all that it waits for listed. -/
def Shut (md : Region.Mode) (ops : Array Oper) (listed : Array Bool) : Prop := ∀ m k, waitB md ops m k = true → listed.getD m false = true → listed.getD k false = true
theorem shut_start (n : Nat) : Shut md ops (Array.replicate n false) := by
  intro m k _ h
  simp only [Array.getD_eq_getD_getElem?, Array.getElem?_replicate] at h
  split at h <;> simp at h
theorem wait_ready {m k : Nat} {listed : Array Bool} (h : m ∈ Region.ready md ops listed) (hw : waitB md ops m k = true) : listed.getD k false = true := by
  obtain ⟨_, o, ho, hall⟩ := mem_ready.1 h
  unfold waitB at hw
  rw [ho] at hw
  simp only [Array.any_eq_true, Bool.and_eq_true, beq_iff_eq] at hw
  obtain ⟨i, hi, hb, he⟩ := hw
  rw [← he]
  exact hall _ (Array.getElem_mem hi) hb
theorem shut_step {j : Nat} {listed : Array Bool} (h : Shut md ops listed) (hj : j ∈ Region.ready md ops listed) : Shut md ops (listed.setIfInBounds j true) := by
  intro m k hw hm
  by_cases e : m = j
  · subst e
    exact getD_set_true (wait_ready hj hw)
  · rw [getD_set_ne false (Ne.symm e)] at hm
    exact getD_set_true (h m k hw hm)
theorem needs_listed {listed : Array Bool} (hs : Shut md ops listed) (hL : ∀ k, waitB md ops L k = true → listed.getD k false = true) :
    ∀ (n : Nat) (acc : List Nat), (∀ m ∈ acc, m = L ∨ listed.getD m false = true) → ∀ m ∈ needs md ops n acc, m = L ∨ listed.getD m false = true := by
  intro n
  induction n with
  | zero => intro acc h; exact h
  | succ k ih =>
    intro acc h
    unfold needs
    split
    · rename_i hany
      refine ih _ ?_
      intro m hm
      rcases List.mem_cons.1 hm with rfl | hm
      · rw [List.any_eq_true] at hany
        obtain ⟨m', hm', hw⟩ := hany
        rcases h m' hm' with rfl | h'
        · exact .inr (hL _ hw)
        · exact .inr (hs m' _ hw h')
      · exact h m hm
    · exact ih _ h
theorem unlisted {i : Nat} {listed : Array Bool} (hs : Shut md ops listed) (hr : listed.getD i true = false) (hiL : i ≠ L) (hneed : i ∈ needs md ops L [L]) : listed.getD L false ≠ true := by
  intro hl
  have hun : listed.getD i false ≠ true := by
    simp only [Array.getD_eq_getD_getElem?] at hr ⊢
    cases h : listed[i]? with
    | none => simp
    | some b => rw [h] at hr; simp at hr; simp [hr]
  rcases needs_listed hs (fun k hw => hs L k hw hl) L [L] (by simp) i hneed with h | h
  · exact hiL h
  · exact hun h
/-- As 'wpAnyH', the condition not being asked once operation L is listed. -/
def wpAnyL (P : Program) (md : Region.Mode) (ops : Array Oper) (Q : Exit → Act → World → Prop) (S : World → Prop) (L : Nat) : Nat → Array Bool → Act → World → Prop
  | 0, listed, a, w => Region.ready md ops listed = [] ∧ Q .normal a w
  | n + 1, listed, a, w => (Region.ready md ops listed = [] → Q .normal a w) ∧
      ∀ i ∈ Region.ready md ops listed, wpOp P ops Q i (fun a' w' => ((listed.setIfInBounds i true).getD L false = true ∨ S w') ∧ wpAnyL P md ops Q S L n (listed.setIfInBounds i true) a' w') a w
theorem wpAny_of_L : ∀ (n : Nat) (listed : Array Bool) (a : Act) (w : World), wpAnyL P md ops Q S L n listed a w → wpAny P md ops Q n listed a w
  | 0, _, _, _, h => h
  | n + 1, _, _, _, h => ⟨h.1, fun i hi => wpOp_mono (fun a' w' h' => wpAny_of_L n _ a' w' h'.2) (h.2 i hi)⟩
/-- Operation i is taken first: whatever the world under the condition, if the last one waits for it; else whatever the world. -/
theorem wpAnyL_first {i : Nat} {oi : Oper} {v : Value} (hi : ops[i]? = some oi) (hsel : ∀ (j : Nat) (o : Oper) cs b, ops[j]? = some o → o.op ≠ .select cs b)
    (hQ : ∀ c a w, Q (.panic c) (a.put oi.dst v) w → Q (.panic c) a w) (hiL : i ≠ L) {S' : World → Prop} (hneed : (i ∈ needs md ops L [L] ∧ S' = S) ∨ S' = fun _ => True) :
    ∀ (n : Nat) (listed : Array Bool) (a : Act) (w : World), Shut md ops listed →
      (∀ j oj, ops[j]? = some oj → j ≠ i → listed.getD j true = false → (∀ e ∈ oj.after, Region.binds md e = true → e.on ≠ i) → oi.apart ops oj = true) →
      i ∈ Region.ready md ops listed → YieldsIf P ops S' oi v a → (listed.getD L false = true ∨ S w) →
      wpAnyL P md ops Q S L n (listed.setIfInBounds i true) (a.put oi.dst v) w → wpAnyL P md ops Q S L (n + 1) listed a w := by
  have cond : ∀ (listed : Array Bool) (w : World), Shut md ops listed → listed.getD i true = false → (listed.getD L false = true ∨ S w) → S' w := by
    intro listed w hsh hr hC
    rcases hneed with ⟨h1, rfl⟩ | rfl
    · rcases hC with h | h
      · exact absurd h (unlisted hsh hr hiL h1)
      · exact h
    · trivial
  intro n
  induction n with
  | zero =>
    intro listed a w hsh _ hr hy hC H
    refine ⟨fun h => (by rw [h] at hr; cases hr), fun j hj => ?_⟩
    by_cases hji : j = i
    · subst hji
      exact hy.wpOp hi (cond listed w hsh (mem_ready.1 hr).1 hC) ⟨hC.imp getD_set_true id, H⟩
    · have := ready_mono hj hji
      rw [H.1] at this
      cases this
  | succ n ih =>
    intro listed a w hsh hfree hr hy hC H
    refine ⟨fun h => (by rw [h] at hr; cases hr), fun j hj => ?_⟩
    by_cases hji : j = i
    · subst hji
      exact hy.wpOp hi (cond listed w hsh (mem_ready.1 hr).1 hC) ⟨hC.imp getD_set_true id, H⟩
    · have h1 := H.2 j (ready_mono hj hji)
      obtain ⟨hjun, oj, hoj, hall⟩ := mem_ready.1 hj
      have hun : listed.getD i false ≠ true := by
        have hr := (mem_ready.1 hr).1
        simp only [Array.getD_eq_getD_getElem?] at hr ⊢
        cases h : listed[i]? with
        | none => simp
        | some b => rw [h] at hr; simp at hr; simp [hr]
      have hnot : ∀ e ∈ oj.after, Region.binds md e = true → e.on ≠ i := fun e he hb heq => by
        have := hall e he hb
        rw [heq] at this
        exact hun this
      have h2 := wpOp_putIf hoj (hfree j oj hoj hji hjun hnot) (fun cs b => hsel i oi cs b hi) (fun cs b => hsel j oj cs b hoj) hQ hy h1
      have hfree' : ∀ k ok, ops[k]? = some ok → k ≠ i → (listed.setIfInBounds j true).getD k true = false →
          (∀ e ∈ ok.after, Region.binds md e = true → e.on ≠ i) → oi.apart ops ok = true := fun k ok hk hki hun' hno => by
        refine hfree k ok hk hki ?_ hno
        by_cases hjk : j = k
        · subst hjk; exact hjun
        · rw [getD_set_ne true hjk] at hun'; exact hun'
      refine wpOp_mono (fun a' w' h3 => ?_) h2
      have hC' : (listed.setIfInBounds j true).getD L false = true ∨ S w' := by
        rcases h3.2.1 with h | h
        · left
          rw [Array.setIfInBounds_comm _ _ (Ne.symm hji), getD_set_ne false hiL] at h
          exact h
        · exact .inr h
      refine ⟨hC', ih (listed.setIfInBounds j true) a' w' (shut_step hsh hj) hfree' (ready_mono hr (Ne.symm hji)) h3.1 hC' ?_⟩
      rw [Array.setIfInBounds_comm _ _ hji]
      exact h3.2.2
/-- The rest of a region; 0: taken first; 1: run; 2: taken first, whatever the world; 3: run, the condition not being asked behind it (operation L, and what comes behind that one). -/
def wpSqL (P : Program) (ops : Array Oper) (Q : Exit → Act → World → Prop) (S : World → Prop) : List Oper → List Nat → Act → World → Prop
  | [], _, a, w => Q .normal a w
  | o :: r, ks, a, w =>
    if ks.headD 0 = 1 then Region.wanted o (yielded ops a.tmps) = true ∧ o.wp P a w (fun a' w' => S w' ∧ wpSqL P ops Q S r ks.tail a' w') Q
    else if ks.headD 0 = 3 then Region.wanted o (yielded ops a.tmps) = true ∧ o.wp P a w (fun a' w' => wpSqL P ops Q S r ks.tail a' w') Q
    else ∃ v, YieldsIf P ops (if ks.headD 0 = 0 then S else fun _ => True) o v a ∧ wpSqL P ops Q S r ks.tail (a.put o.dst v) w
def sqLB (md : Region.Mode) (ops : Array Oper) (L : Nat) (ns : List Nat) : List Nat → List Nat → Array Bool → Bool
  | [], _, listed => (Region.ready md ops listed).isEmpty
  | k :: l, ks, listed => (if ks.headD 0 = 1 then Region.ready md ops listed == [k] && listed.getD L true == false else if ks.headD 0 = 3 then Region.ready md ops listed == [k] && (k == L || listed.getD L false) else (ks.headD 0 == 2 || ns.contains k) && (k != L && (Region.free md ops listed k && (Region.ready md ops listed).contains k))) && sqLB md ops L ns l ks.tail (listed.setIfInBounds k true)
theorem wpAnyL_of_sq (l : List Oper) (hsel : Region.noSelect l.toArray = true) (hQ : ∀ (c : _) (a : Act) (d : Option Tmp) (v : Value) (w : World), Q (.panic c) (a.put d v) w → Q (.panic c) a w) :
    ∀ (order : List Nat) (ks : List Nat) (listed : Array Bool) (a : Act) (w : World), (∀ i ∈ order, i < l.length) → L < listed.size → Shut md l.toArray listed → sqLB md l.toArray L (needs md l.toArray L [L]) order ks listed = true → (listed.getD L false = true ∨ S w) → wpSqL P l.toArray Q S (pick l order) ks a w → wpAnyL P md l.toArray Q S L order.length listed a w := by
  intro order
  induction order with
  | nil =>
    intro ks listed a w _ _ _ hB hS h
    simp only [sqLB, List.isEmpty_iff] at hB
    exact ⟨hB, h⟩
  | cons k r ih =>
    intro ks listed a w hl hsz hsh hB hS h
    have hk0 := hl k (by simp)
    have hi : l.toArray[k]? = some (l.getD k default) := by simp [hk0]
    have hl' : ∀ i ∈ r, i < l.length := fun i hi => hl i (by simp [hi])
    have hsz' : L < (listed.setIfInBounds k true).size := by simpa using hsz
    simp only [sqLB, Bool.and_eq_true] at hB
    obtain ⟨hB1, hB2⟩ := hB
    simp only [pick, List.map_cons] at h
    unfold wpSqL at h
    by_cases hk : ks.headD 0 = 1
    · rw [if_pos hk] at h hB1
      simp only [Bool.and_eq_true, beq_iff_eq] at hB1
      have hr : Region.ready md l.toArray listed = [k] := hB1.1
      refine ⟨fun h0 => (by rw [hr] at h0; cases h0), fun i hii => ?_⟩
      have hsh' := shut_step hsh hii
      rw [hr] at hii
      obtain rfl : i = k := by simpa using hii
      unfold wpOp
      simp only [hi]
      rw [if_pos h.1]
      exact .inl (Oper.wp_mono (fun a' w' ⟨h1, h2⟩ => ⟨.inr h1, ih _ _ _ _ hl' hsz' hsh' hB2 (.inr h1) h2⟩) h.2)
    · rw [if_neg hk] at h hB1
      by_cases h3 : ks.headD 0 = 3
      · rw [if_pos h3] at h hB1
        simp only [Bool.and_eq_true, beq_iff_eq, Bool.or_eq_true] at hB1
        have hr : Region.ready md l.toArray listed = [k] := hB1.1
        refine ⟨fun h0 => (by rw [hr] at h0; cases h0), fun i hii => ?_⟩
        have hsh' := shut_step hsh hii
        rw [hr] at hii
        obtain rfl : i = k := by simpa using hii
        unfold wpOp
        simp only [hi]
        rw [if_pos h.1]
        have hc : (listed.setIfInBounds i true).getD L false = true := by
          rcases hB1.2 with e | e
          · rw [← e]
            simp [Array.getD_eq_getD_getElem?, Array.getElem?_setIfInBounds, show i < listed.size by omega]
          · exact getD_set_true e
        exact .inl (Oper.wp_mono (fun a' w' h2 => ⟨.inl hc, ih _ _ _ _ hl' hsz' hsh' hB2 (.inl hc) h2⟩) h.2)
      · rw [if_neg h3] at h hB1
        simp only [Bool.and_eq_true, bne_iff_ne, ne_eq] at hB1
        obtain ⟨v, hy, h⟩ := h
        have hrd : k ∈ Region.ready md l.toArray listed := by simpa using hB1.2.2.2
        refine wpAnyL_first hi (Region.noSelect_spec hsel) (fun c a w => hQ c a _ _ w) hB1.2.1 (S' := if ks.headD 0 = 0 then S else fun _ => True) ?_ _ _ _ _ hsh (Region.free_spec hi hB1.2.2.1) hrd hy hS (ih _ _ _ _ hl' hsz' (shut_step hsh hrd) hB2 (hS.imp getD_set_true id) h)
        by_cases h0 : ks.headD 0 = 0
        · have := hB1.1
          rw [if_pos h0]
          simp only [h0, Bool.or_eq_true, beq_iff_eq] at this
          left
          refine ⟨?_, rfl⟩
          rcases this with h | h
          · cases h
          · simpa using h
        · rw [if_neg h0]; exact .inr rfl
theorem wp_region_sqL {id : Nat} {a : Act} {w : World} {l : List Oper} (L : Nat) (order : List Nat) (ks : List Nat) (S : World → Prop) (hm : P.follows .mixedOrders = true) (hsel : Region.noSelect l.toArray = true)
    (hlen : (order.length == l.length && (order.all (fun i => decide (i < l.length)) && decide (L < l.length))) = true) (hB : sqLB .any l.toArray L (needs .any l.toArray L [L]) order ks (Array.replicate l.length false) = true)
    (hS : S w.drew) (h : wpSqL P l.toArray (NoPanic Q) S (pick l order) ks a w.drew) : (Code.region id l.toArray true).wp P Q a w := by
  refine wp_region_noPanic (wp_region_any hm ?_)
  simp only [Bool.and_eq_true, beq_iff_eq, List.all_eq_true, decide_eq_true_eq] at hlen
  have := wpAny_of_L _ _ _ _ (wpAnyL_of_sq (md := .any) (Q := NoPanic Q) (L := L) l hsel (fun c a d v w h => h) order ks (Array.replicate l.length false) a w.drew hlen.2.1 (by simpa using hlen.2.2) (shut_start _) hB (.inr hS) h)
  rw [hlen.1] at this
  simpa using this
theorem sqL_take {o : Oper} {r : List Oper} {ks : List Nat} {a : Act} {w : World} (v : Value) (hw : Region.wanted o (yielded ops a.tmps) = true) (hy : ∀ w, S w → (execOp a.eval o).run P w = .ok (.value v) w)
    (h : wpSqL P ops Q S r ks (a.put o.dst v) w) : wpSqL P ops Q S (o :: r) (0 :: ks) a w := by
  unfold wpSqL; rw [if_neg (by simp), if_neg (by simp)]; exact ⟨v, by rw [if_pos (by simp)]; exact .inl ⟨hw, hy⟩, h⟩
theorem sqL_skip {o : Oper} {r : List Oper} {ks : List Nat} {a : Act} {w : World} (hw : Region.wanted o (yielded ops a.tmps) = false)
    (h : wpSqL P ops Q S r ks (a.put o.dst undef) w) : wpSqL P ops Q S (o :: r) (0 :: ks) a w := by
  unfold wpSqL; rw [if_neg (by simp), if_neg (by simp)]; exact ⟨undef, .inr ⟨hw, rfl⟩, h⟩
theorem sqL_pure {o : Oper} {r : List Oper} {ks : List Nat} {a : Act} {w : World} (v : Value) (hw : Region.wanted o (yielded ops a.tmps) = true) (hy : ∀ w, True → (execOp a.eval o).run P w = .ok (.value v) w)
    (h : wpSqL P ops Q S r ks (a.put o.dst v) w) : wpSqL P ops Q S (o :: r) (2 :: ks) a w := by
  unfold wpSqL; rw [if_neg (by simp), if_neg (by simp)]; exact ⟨v, by rw [if_neg (by simp)]; exact .inl ⟨hw, hy⟩, h⟩
theorem sqL_run {o : Oper} {r : List Oper} {ks : List Nat} {a : Act} {w : World} (hw : Region.wanted o (yielded ops a.tmps) = true)
    (h : ∀ K : Act → World → Prop, (∀ (a : Act) (w : World), S w → wpSqL P ops Q S r ks a w → K a w) → Oper.wp P o a w K Q) : wpSqL P ops Q S (o :: r) (1 :: ks) a w := by
  unfold wpSqL
  rw [if_pos (by simp)]
  exact ⟨hw, h _ (fun a w h1 h2 => ⟨h1, h2⟩)⟩
theorem sqL_late {o : Oper} {r : List Oper} {ks : List Nat} {a : Act} {w : World} (hw : Region.wanted o (yielded ops a.tmps) = true)
    (h : ∀ K : Act → World → Prop, (∀ (a : Act) (w : World), wpSqL P ops Q S r ks a w → K a w) → Oper.wp P o a w K Q) : wpSqL P ops Q S (o :: r) (3 :: ks) a w := by
  unfold wpSqL
  rw [if_neg (by simp), if_pos (by simp)]
  exact ⟨hw, h _ (fun a w h1 => h1)⟩
theorem sqL_last {o : Oper} {ks : List Nat} {a : Act} {w : World} (hw : Region.wanted o (yielded ops a.tmps) = true)
    (h : ∀ K : Act → World → Prop, (∀ (a : Act) (w : World), Q .normal a w → K a w) → Oper.wp P o a w K (NoPanic Q)) : wpSqL P ops (NoPanic Q) S [o] (3 :: ks) a w := by
  unfold wpSqL
  rw [if_neg (by simp), if_pos (by simp)]
  exact ⟨hw, h _ (fun a w h1 => by unfold wpSqL; exact h1)⟩
theorem sqL_end {ks : List Nat} {a : Act} {w : World} (h : Q .normal a w) : wpSqL P ops (NoPanic Q) S [] ks a w := by
  unfold wpSqL; exact h
end
end Go.Proofs.Ythohjekfffebkaa
