/- A region that draws its order, walked along a script that may part in two: what only reads is taken first under a condition on the world, what else comes up is run. No condition. -/
import Derived.Test.YthohjekfffebkaaSeqL
namespace Go.Proofs.Ythohjekfffebkaa
open Go.RowKit
set_option linter.unusedVariables false
set_option linter.unusedSimpArgs false
inductive Scr where
  | stop
  | take (k : Nat) (r : Scr)
  | run (k : Nat) (r : Scr)
  | two (k : Nat) (r : Scr) (k' : Nat) (r' : Scr)
section
variable {P : Program} {l : List Oper} {Q : Exit → Act → World → Prop} {md : Region.Mode} {S : World → Prop}
def Scr.wpRun (P : Program) (l : List Oper) (Q : Exit → Act → World → Prop) (S : World → Prop) (k : Nat) (f : Act → World → Prop) (a : Act) (w : World) : Prop :=
  ∃ o, l[k]? = some o ∧ Region.wanted o (yielded l.toArray a.tmps) = true ∧ o.wp P a w (fun a' w' => S w' ∧ f a' w') Q
def Scr.wp (P : Program) (l : List Oper) (Q : Exit → Act → World → Prop) (S : World → Prop) : Scr → Act → World → Prop
  | .stop, a, w => Q .normal a w
  | .take k r, a, w => ∃ o v, l[k]? = some o ∧ YieldsIf P l.toArray S o v a ∧ Scr.wp P l Q S r (a.put o.dst v) w
  | .run k r, a, w => Scr.wpRun P l Q S k (Scr.wp P l Q S r) a w
  | .two k r k' r', a, w => Scr.wpRun P l Q S k (Scr.wp P l Q S r) a w ∧ Scr.wpRun P l Q S k' (Scr.wp P l Q S r') a w
def Scr.ok (md : Region.Mode) (ops : Array Oper) : Scr → Nat → Array Bool → Bool
  | .stop, _, listed => (Region.ready md ops listed).isEmpty
  | .take k r, n + 1, listed => Region.free md ops listed k && (Region.ready md ops listed).contains k && Scr.ok md ops r n (listed.setIfInBounds k true)
  | .run k r, n + 1, listed => Region.ready md ops listed == [k] && Scr.ok md ops r n (listed.setIfInBounds k true)
  | .two k r k' r', n + 1, listed => Region.ready md ops listed == [k, k'] && Scr.ok md ops r n (listed.setIfInBounds k true) && Scr.ok md ops r' n (listed.setIfInBounds k' true)
  | _, 0, _ => false
theorem wpAnyH_of_scr (hsel : Region.noSelect l.toArray = true) (hQ : ∀ (c : _) (a : Act) (d : Option Tmp) (v : Value) (w : World), Q (.panic c) (a.put d v) w → Q (.panic c) a w) :
    ∀ (s : Scr) (n : Nat) (listed : Array Bool) (a : Act) (w : World), s.ok md l.toArray n listed = true → S w → s.wp P l Q S a w → wpAnyH P md l.toArray Q S n listed a w := by
  have hrun : ∀ (k : Nat) (r : Scr) (n : Nat) (listed : Array Bool) (a : Act) (w : World),
      (∀ (a : Act) (w : World), S w → r.wp P l Q S a w → wpAnyH P md l.toArray Q S n (listed.setIfInBounds k true) a w) → Scr.wpRun P l Q S k (Scr.wp P l Q S r) a w →
      wpOp P l.toArray Q k (fun a' w' => S w' ∧ wpAnyH P md l.toArray Q S n (listed.setIfInBounds k true) a' w') a w := by
    intro k r n listed a w ih h
    obtain ⟨o, ho, hw, h⟩ := h
    unfold wpOp
    simp only [List.getElem?_toArray, ho, hw, if_true]
    exact .inl (Oper.wp_mono (fun a' w' h' => ⟨h'.1, ih a' w' h'.1 h'.2⟩) h)
  intro s
  induction s with
  | stop =>
    intro n listed a w hB hS h
    have hr : Region.ready md l.toArray listed = [] := by cases n <;> simpa [Scr.ok] using hB
    exact wpAnyH_done hr h n
  | take k r ih =>
    intro n listed a w hB hS h
    cases n with
    | zero => simp [Scr.ok] at hB
    | succ n =>
      simp only [Scr.ok, Bool.and_eq_true] at hB
      obtain ⟨o, v, ho, hy, h⟩ := h
      exact wpAnyH_take (by simpa using ho) hsel hB.1.1 hB.1.2 (fun c a w => hQ c a _ _ w) hy hS (ih _ _ _ _ hB.2 hS h)
  | run k r ih =>
    intro n listed a w hB hS h
    cases n with
    | zero => simp [Scr.ok] at hB
    | succ n =>
      simp only [Scr.ok, Bool.and_eq_true, beq_iff_eq] at hB
      refine wpAnyH_all hB.1 (by simp) fun i hii => ?_
      obtain rfl : i = k := by simpa using hii
      exact hrun i r n listed a w (fun a w hS h => ih _ _ _ _ hB.2 hS h) h
  | two k r k' r' ih ih' =>
    intro n listed a w hB hS h
    cases n with
    | zero => simp [Scr.ok] at hB
    | succ n =>
      simp only [Scr.ok, Bool.and_eq_true, beq_iff_eq] at hB
      refine wpAnyH_all hB.1.1 (by simp) fun i hii => ?_
      rcases List.mem_cons.1 hii with rfl | hii
      · exact hrun i r n listed a w (fun a w hS h => ih _ _ _ _ hB.1.2 hS h) h.1
      · obtain rfl : i = k' := by simpa using hii
        exact hrun i r' n listed a w (fun a w hS h => ih' _ _ _ _ hB.2 hS h) h.2
theorem wp_region_scr {id : Nat} {a : Act} {w : World} (s : Scr) (S : World → Prop) (hm : P.follows .mixedOrders = true) (hsel : Region.noSelect l.toArray = true)
    (hB : s.ok .any l.toArray l.length (Array.replicate l.length false) = true)
    (hS : S w.drew) (h : s.wp P l (NoPanic Q) S a w.drew) : (Code.region id l.toArray true).wp P Q a w := by
  refine wp_region_noPanic (wp_region_held (S := S) hm ?_)
  have := wpAnyH_of_scr (md := .any) (Q := NoPanic Q) hsel (fun c a d v w h => h) s l.length (Array.replicate l.length false) a w.drew hB hS h
  simpa using this
theorem scr_take {k : Nat} {r : Scr} {o : Oper} {a : Act} {w : World} (ho : l[k]? = some o) (v : Value) (hw : Region.wanted o (yielded l.toArray a.tmps) = true) (hy : ∀ w, S w → (execOp a.eval o).run P w = .ok (.value v) w)
    (h : Scr.wp P l Q S r (a.put o.dst v) w) : Scr.wp P l Q S (.take k r) a w := ⟨o, v, ho, .inl ⟨hw, hy⟩, h⟩
theorem scr_skip {k : Nat} {r : Scr} {o : Oper} {a : Act} {w : World} (ho : l[k]? = some o) (hw : Region.wanted o (yielded l.toArray a.tmps) = false)
    (h : Scr.wp P l Q S r (a.put o.dst undef) w) : Scr.wp P l Q S (.take k r) a w := ⟨o, undef, ho, .inr ⟨hw, rfl⟩, h⟩
theorem scr_run {k : Nat} {r : Scr} {o : Oper} {a : Act} {w : World} (ho : l[k]? = some o) (hw : Region.wanted o (yielded l.toArray a.tmps) = true)
    (h : ∀ K : Act → World → Prop, (∀ a w, S w → Scr.wp P l Q S r a w → K a w) → Oper.wp P o a w K Q) : Scr.wp P l Q S (.run k r) a w :=
  ⟨o, ho, hw, h _ (fun a w h1 h2 => ⟨h1, h2⟩)⟩
theorem scr_two {k k' : Nat} {r r' : Scr} {a : Act} {w : World} (h : Scr.wp P l Q S (.run k r) a w) (h' : Scr.wp P l Q S (.run k' r') a w) : Scr.wp P l Q S (.two k r k' r') a w := ⟨h, h'⟩
theorem scr_stop {a : Act} {w : World} (h : Q .normal a w) : Scr.wp P l (NoPanic Q) S .stop a w := h
end
end Go.Proofs.Ythohjekfffebkaa
