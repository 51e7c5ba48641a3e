/- A region that draws its order, walked in one order of the prover's choice: what only reads is taken first under a condition on the world that may grow, the rest comes up alone. No condition. -/
import Derived.Test.YthohjekfffebkaaSeq
namespace Go.Proofs.Ythohjekfffebkaa
open Go.RowKit
set_option linter.unusedVariables false
set_option linter.unusedSimpArgs false
section
variable {P : Program} {ops : Array Oper} {Q : Exit → Act → World → Prop} {md : Region.Mode} {S : World → Prop}
theorem wpAnyH_mono {S S' : World → Prop} (h : ∀ w, S' w → S w) : ∀ (fuel : Nat) (listed : Array Bool) (a : Act) (w : World), wpAnyH P md ops Q S' fuel listed a w → wpAnyH P md ops Q S fuel listed a w := by
  intro fuel
  induction fuel with
  | zero => intro listed a w hh; exact hh
  | succ n ih =>
    intro listed a w hh
    exact ⟨hh.1, fun i hi => wpOp_mono (fun a' w' h' => ⟨h _ h'.1, ih _ _ _ h'.2⟩) (hh.2 i hi)⟩
/-- The rest of a region; true: taken first; false: run. -/
def wpSq (P : Program) (ops : Array Oper) (Q : Exit → Act → World → Prop) : (World → Prop) → List Oper → List Bool → Act → World → Prop
  | _, [], _, a, w => Q .normal a w
  | S, o :: r, ks, a, w =>
    if ks.headD true = true then ∃ v, YieldsIf P ops S o v a ∧ wpSq P ops Q S r ks.tail (a.put o.dst v) w
    else Region.wanted o (yielded ops a.tmps) = true ∧ o.wp P a w (fun a' w' => ∃ S' : World → Prop, (∀ w, S' w → S w) ∧ S' w' ∧ wpSq P ops Q S' r ks.tail a' w') Q
/-- The chosen order will do. -/
def sqB (md : Region.Mode) (ops : Array Oper) : List Nat → List Bool → Array Bool → Bool
  | [], _, listed => (Region.ready md ops listed).isEmpty
  | k :: l, ks, listed => (if ks.headD true = true then Region.free md ops listed k && (Region.ready md ops listed).contains k else Region.ready md ops listed == [k]) && sqB md ops l ks.tail (listed.setIfInBounds k true)
def pick (l : List Oper) (order : List Nat) : List Oper := order.map fun i => l.getD i default
theorem wpAnyH_of_sq (l : List Oper) (hsel : Region.noSelect l.toArray = true) (hQ : ∀ (c : _) (a : Act) (d : Option Tmp) (v : Value) (w : World), Q (.panic c) (a.put d v) w → Q (.panic c) a w) :
    ∀ (order : List Nat) (ks : List Bool) (S : World → Prop) (listed : Array Bool) (a : Act) (w : World), (∀ i ∈ order, i < l.length) → sqB md l.toArray order ks listed = true → S w → wpSq P l.toArray Q S (pick l order) ks a w → wpAnyH P md l.toArray Q S order.length listed a w := by
  intro order
  induction order with
  | nil =>
    intro ks S listed a w _ hB hS h
    simp only [sqB, List.isEmpty_iff] at hB
    exact ⟨hB, h⟩
  | cons k r ih =>
    intro ks S listed a w hl hB hS h
    have hk0 := hl k (by simp)
    have hi : l.toArray[k]? = some (l.getD k default) := by simp [hk0]
    have hl' : ∀ i ∈ r, i < l.length := fun i hi => hl i (by simp [hi])
    simp only [sqB, Bool.and_eq_true] at hB
    obtain ⟨hB1, hB2⟩ := hB
    simp only [pick, List.map_cons] at h
    unfold wpSq at h
    by_cases hk : ks.headD true = true
    · rw [if_pos hk] at h hB1
      simp only [Bool.and_eq_true] at hB1
      obtain ⟨v, hy, h⟩ := h
      exact wpAnyH_take hi hsel hB1.1 hB1.2 (fun c a w => hQ c a _ _ w) hy hS (ih _ _ _ _ _ hl' hB2 hS h)
    · rw [if_neg hk] at h hB1
      have hr : Region.ready md l.toArray listed = [k] := by simpa using hB1
      refine wpAnyH_all hr (by simp) fun i hii => ?_
      obtain rfl : i = k := by simpa using hii
      unfold wpOp
      simp only [hi]
      rw [if_pos h.1]
      exact .inl (Oper.wp_mono (fun a' w' ⟨S', h0, h1, h2⟩ => ⟨h0 _ h1, wpAnyH_mono h0 _ _ _ _ (ih _ _ _ _ _ hl' hB2 h1 h2)⟩) h.2)
theorem wp_region_sq {id : Nat} {a : Act} {w : World} {l : List Oper} (order : List Nat) (ks : List Bool) (S : World → Prop) (hm : P.follows .mixedOrders = true) (hsel : Region.noSelect l.toArray = true)
    (hlen : (order.length == l.length && order.all (fun i => decide (i < l.length))) = true) (hB : sqB .any l.toArray order ks (Array.replicate l.length false) = true)
    (hS : S w.drew) (h : wpSq P l.toArray (NoPanic Q) S (pick l order) ks a w.drew) : (Code.region id l.toArray true).wp P Q a w := by
  refine wp_region_noPanic (wp_region_held (S := S) hm ?_)
  simp only [Bool.and_eq_true, beq_iff_eq, List.all_eq_true, decide_eq_true_eq] at hlen
  have := wpAnyH_of_sq (md := .any) (Q := NoPanic Q) l hsel (fun c a d v w h => h) order ks S (Array.replicate l.length false) a w.drew hlen.2 hB hS h
  rw [hlen.1] at this
  simpa using this
theorem sq_take {o : Oper} {r : List Oper} {ks : List Bool} {a : Act} {w : World} (v : Value) (hw : Region.wanted o (yielded ops a.tmps) = true) (hy : ∀ w, S w → (execOp a.eval o).run P w = .ok (.value v) w)
    (h : wpSq P ops Q S r ks (a.put o.dst v) w) : wpSq P ops Q S (o :: r) (true :: ks) a w := by
  unfold wpSq; rw [if_pos (show (true :: ks).headD true = true from rfl)]; exact ⟨v, .inl ⟨hw, hy⟩, h⟩
theorem sq_skip {o : Oper} {r : List Oper} {ks : List Bool} {a : Act} {w : World} (hw : Region.wanted o (yielded ops a.tmps) = false)
    (h : wpSq P ops Q S r ks (a.put o.dst undef) w) : wpSq P ops Q S (o :: r) (true :: ks) a w := by
  unfold wpSq; rw [if_pos (show (true :: ks).headD true = true from rfl)]; exact ⟨undef, .inr ⟨hw, rfl⟩, h⟩
/-- An operation that is run: behind it a condition that says more may be chosen. -/
theorem sq_run {o : Oper} {r : List Oper} {ks : List Bool} {a : Act} {w : World} (hw : Region.wanted o (yielded ops a.tmps) = true)
    (h : ∀ K : Act → World → Prop, (∀ (a : Act) (w : World) (S' : World → Prop), (∀ w, S' w → S w) → S' w → wpSq P ops Q S' r ks a w → K a w) → Oper.wp P o a w K Q) : wpSq P ops Q S (o :: r) (false :: ks) a w := by
  unfold wpSq
  rw [if_neg (by simp)]
  exact ⟨hw, h _ (fun a w S' h0 h1 h2 => ⟨S', h0, h1, h2⟩)⟩
theorem sq_end {ks : List Bool} {a : Act} {w : World} (h : Q .normal a w) : wpSq P ops (NoPanic Q) S [] ks a w := by
  unfold wpSq; exact h
end
end Go.Proofs.Ythohjekfffebkaa
