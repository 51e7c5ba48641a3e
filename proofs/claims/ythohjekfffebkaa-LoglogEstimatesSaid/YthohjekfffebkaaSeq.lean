/- A region that draws its order, walked in the order of its text: what only reads is taken first under a condition on the world, the rest comes up alone. No condition. -/
import Derived.Test.YthohjekfffebkaaLib3
import Derived.Deep.RegionHeld3
namespace Go.Proofs.Ythohjekfffebkaa
open Go.RowKit
set_option linter.unusedVariables false
set_option linter.unusedSimpArgs false
section
variable {P : Program} {ops : Array Oper} {Q : Exit → Act → World → Prop} {md : Region.Mode} {S : World → Prop}
/-- The rest of a region in the order of its text; true: taken first; false: run. -/
def wpSeq (P : Program) (ops : Array Oper) (Q : Exit → Act → World → Prop) (S : World → Prop) : List Oper → List Bool → Act → World → Prop
  | [], _, a, w => Q .normal a w
  | o :: r, ks, a, w =>
    if ks.headD true = true then ∃ v, YieldsIf P ops S o v a ∧ wpSeq P ops Q S r ks.tail (a.put o.dst v) w
    else if Region.wanted o (yielded ops a.tmps) = true then o.wp P a w (fun a' w' => S w' ∧ wpSeq P ops Q S r ks.tail a' w') Q else S w ∧ wpSeq P ops Q S r ks.tail (a.put o.dst undef) w
/-- The order of the text will do. -/
def seqB (md : Region.Mode) (ops : Array Oper) : Nat → List Bool → Nat → Array Bool → Bool
  | 0, _, _, listed => (Region.ready md ops listed).isEmpty
  | n + 1, ks, k, listed => (if ks.headD true = true then Region.free md ops listed k && (Region.ready md ops listed).contains k else Region.ready md ops listed == [k]) && seqB md ops n ks.tail (k + 1) (listed.setIfInBounds k true)
theorem wpAnyH_of_seq (hsel : Region.noSelect ops = true) (hQ : ∀ (c : _) (a : Act) (d : Option Tmp) (v : Value) (w : World), Q (.panic c) (a.put d v) w → Q (.panic c) a w) :
    ∀ (l : List Oper) (ks : List Bool) (k : Nat) (listed : Array Bool) (a : Act) (w : World), (∀ j, l[j]? = ops[k + j]?) → seqB md ops l.length ks k listed = true → S w → wpSeq P ops Q S l ks a w → wpAnyH P md ops Q S l.length listed a w := by
  intro l
  induction l with
  | nil =>
    intro ks k listed a w _ hB hS h
    simp only [List.length_nil, seqB, List.isEmpty_iff] at hB
    exact ⟨hB, h⟩
  | cons o r ih =>
    intro ks k listed a w hl hB hS h
    have hi : ops[k]? = some o := by simpa using (hl 0).symm
    have hl' : ∀ j, r[j]? = ops[k + 1 + j]? := fun j => by
      have := hl (j + 1)
      rw [List.getElem?_cons_succ] at this
      rw [this]; congr 1; omega
    simp only [List.length_cons, seqB, Bool.and_eq_true] at hB
    obtain ⟨hB1, hB2⟩ := hB
    unfold wpSeq at h
    by_cases hk : ks.headD true = true
    · rw [if_pos hk] at h hB1
      simp only [Bool.and_eq_true] at hB1
      obtain ⟨v, hy, h⟩ := h
      exact wpAnyH_take hi hsel hB1.1 hB1.2 (fun c a w => hQ c a _ _ w) hy hS (ih _ _ _ _ _ hl' hB2 hS h)
    · rw [if_neg hk] at h hB1
      have hr : Region.ready md ops listed = [k] := by simpa using hB1
      refine wpAnyH_all hr (by simp) fun i hii => ?_
      obtain rfl : i = k := by simpa using hii
      unfold wpOp
      simp only [hi]
      by_cases hw : Region.wanted o (yielded ops a.tmps) = true
      · rw [if_pos hw] at h ⊢
        exact .inl (Oper.wp_mono (fun a' w' ⟨h1, h2⟩ => ⟨h1, ih _ _ _ _ _ hl' hB2 h1 h2⟩) h)
      · rw [if_neg hw] at h ⊢
        exact ⟨h.1, ih _ _ _ _ _ hl' hB2 h.1 h.2⟩
theorem wp_region_seq {id : Nat} {a : Act} {w : World} {l : List Oper} (ks : List Bool) (S : World → Prop) (hm : P.follows .mixedOrders = true) (hsel : Region.noSelect l.toArray = true)
    (hB : seqB .any l.toArray l.length ks 0 (Array.replicate l.length false) = true)
    (hS : S w.drew) (h : wpSeq P l.toArray (NoPanic Q) S l ks a w.drew) : (Code.region id l.toArray true).wp P Q a w := by
  refine wp_region_noPanic (wp_region_held (S := S) hm ?_)
  have := wpAnyH_of_seq (md := .any) (Q := NoPanic Q) hsel (fun c a d v w h => h) l ks 0 (Array.replicate l.length false) a w.drew (fun j => by simp) hB hS h
  simpa using this
theorem seq_take {o : Oper} {r : List Oper} {ks : List Bool} {a : Act} {w : World} (v : Value) (hw : Region.wanted o (yielded ops a.tmps) = true) (hy : ∀ w, S w → (execOp a.eval o).run P w = .ok (.value v) w)
    (h : wpSeq P ops Q S r ks (a.put o.dst v) w) : wpSeq P ops Q S (o :: r) (true :: ks) a w := by
  unfold wpSeq; rw [if_pos (show (true :: ks).headD true = true from rfl)]; exact ⟨v, .inl ⟨hw, hy⟩, h⟩
theorem seq_skip {o : Oper} {r : List Oper} {ks : List Bool} {a : Act} {w : World} (hw : Region.wanted o (yielded ops a.tmps) = false)
    (h : wpSeq P ops Q S r ks (a.put o.dst undef) w) : wpSeq P ops Q S (o :: r) (true :: ks) a w := by
  unfold wpSeq; rw [if_pos (show (true :: ks).headD true = true from rfl)]; exact ⟨undef, .inr ⟨hw, rfl⟩, h⟩
theorem seq_run {o : Oper} {r : List Oper} {ks : List Bool} {a : Act} {w : World} (hw : Region.wanted o (yielded ops a.tmps) = true)
    (h : ∀ K : Act → World → Prop, (∀ a w, S w → wpSeq P ops Q S r ks a w → K a w) → Oper.wp P o a w K Q) : wpSeq P ops Q S (o :: r) (false :: ks) a w := by
  unfold wpSeq
  rw [if_neg (by simp), if_pos hw]
  exact h _ (fun a w h1 h2 => ⟨h1, h2⟩)
theorem seq_pass {o : Oper} {r : List Oper} {ks : List Bool} {a : Act} {w : World} (hw : Region.wanted o (yielded ops a.tmps) = false) (hS : S w)
    (h : wpSeq P ops Q S r ks (a.put o.dst undef) w) : wpSeq P ops Q S (o :: r) (false :: ks) a w := by
  unfold wpSeq
  rw [if_neg (by simp), if_neg (by simp [hw])]
  exact ⟨hS, h⟩
theorem seq_end {ks : List Bool} {a : Act} {w : World} (h : Q .normal a w) : wpSeq P ops (NoPanic Q) S [] ks a w := by
  unfold wpSeq; exact h
/-- 'append' of whatever source, at an operation. -/
theorem wp_appS {P : Program} (w : World) {o : Oper} {a : Act} {K : Act → World → Prop} {Q : Exit → Act → World → Prop} (s x : Operand) (t tx : TypeId)
    (ho : o.op = .call { callee := .builtin .append, args := #[s, x], argTypes := #[t, tx] })
    (base : Nat) (e : TypeId) (z : Value) (size bytes : Nat) (ht : P.underlying t = some (.slice e)) (hinfo : (P.info? e).map (fun i => (i.zero, i.size, i.bytes)) = some (some z, size, bytes)) (hzs : z.cells.size = size) (hsz : 0 < size)
    (v xv : Value) (n m : Nat) (xs news : List Value) (hown : w.ownsRow base e size v n xs) (hs : a.eval s = v) (hx : a.eval x = xv) (hsrc : Src P size tx xv m news w)
    (h63 : n + m ≤ maxLen) (hbytes : (n + m) * bytes ≤ 140737488355328) (hbase : base ≤ w.heap.size)
    (h : ∀ v' w', w'.ownsRow base e size v' (n + m) (xs ++ news) → w.grownBy w' v.ownBlock → (v'.ownBlock = v.ownBlock ∨ v'.ownBlock = some w.heap.size) → K (a.put o.dst v') w') :
    Oper.wp P o a w K Q := by
  obtain ⟨i, hi, hz0, hz1, hz2⟩ := info_parts hinfo
  obtain ⟨v', w', hr, h2, h3, h4⟩ := run_appS (P := P) w base t tx o.type e i z size bytes ht hi hz0 hz1 hz2 hzs hsz v n xs hown xv m news hsrc h63 hbytes hbase
  unfold Oper.wp execOp
  simp only [ho, resolve, invoke, builtin, Sem.run_bind, Sem.run_pure, Result.andThen_ok, List.map_toArray, List.map_cons, List.map_nil, hs, hx, hr]
  exact h v' w' h2 h3 h4
end
end Go.Proofs.Ythohjekfffebkaa
