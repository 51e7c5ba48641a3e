/- Helpers over any program: rows of integers in memory, worlds that have grown. No condition. -/
import Derived.Test.YtcdfbfeeemaafaaRows
import Derived.WalkKit
import Derived.WalkSpells
import Derived.Deep.QuietTactic
import Derived.BigQuiet
import Derived.Lib.Hide
import Derived.OpenShut
namespace Go.Proofs.Ytcdfbfeeemaafaa
open Go.RowKit
set_option linter.unusedVariables false
set_option linter.unusedSimpArgs false

/-- The i-th number of a list, 0 behind its end. -/
def gI (l : List Int) (i : Nat) : Int := l.getD i 0

theorem gI_eq {l : List Int} {i : Nat} (h : i < l.length) : gI l i = l[i] := by simp [gI, h]

theorem gI_mem {l : List Int} {i : Nat} (h : i < l.length) : gI l i ∈ l := by rw [gI_eq h]; exact List.getElem_mem h

/-- The value v is a slice of integers of kind k whose elements are l. -/
def Ints (k : IntKind) (w : World) (v : Value) (l : List Int) : Prop :=
  ∃ a cap, v = .slice a l.length cap ∧ l.length ≤ cap ∧ cap ≤ maxLen ∧ (∀ n ∈ l, (Lit.int k n).wf = true) ∧
    (l = [] ∨ ∃ b off, a = some ⟨b, off, none⟩ ∧ b < w.heap.size ∧ ∀ i, i < l.length → w.cell? ⟨b, off + i, none⟩ = some (.int k (gI l i)))

theorem Ints.grown {k : IntKind} {w w' : World} {v : Value} {l : List Int} (h : Ints k w v l) (hg : w.grownBy w' none) : Ints k w' v l := by
  obtain ⟨a, cap, rfl, h1, h2, h3, h4⟩ := h
  refine ⟨a, cap, rfl, h1, h2, h3, ?_⟩
  rcases h4 with h4 | ⟨b, off, rfl, hb, hc⟩
  · exact .inl h4
  · refine .inr ⟨b, off, rfl, Nat.lt_of_lt_of_le hb hg.size, fun i hi => ?_⟩
    rw [World.cell?_of_block (w := w) (hg.block b hb (by simp))]
    exact hc i hi

theorem Ints.below {k : IntKind} {w w' : World} {v : Value} {l : List Int} (h : Ints k w v l) (hg : Below w.heap.size w w') : Ints k w' v l :=
  h.grown ⟨hg.os, hg.tape, hg.output, hg.size, fun k hk _ => hg.block k hk⟩

theorem below_of_grown {w w' : World} (h : w.grownBy w' none) : Below w.heap.size w w' :=
  ⟨h.os, h.tape, h.output, h.size, fun k hk => h.block k hk (by simp)⟩

theorem grown_of_below {w w' : World} (h : Below w.heap.size w w') : w.grownBy w' none :=
  ⟨h.os, h.tape, h.output, h.size, fun k hk _ => h.block k hk⟩

theorem grown_trans {w w1 w2 : World} {r : Option Nat} (h : w.grownBy w1 none) (h' : w1.grownBy w2 r) (hr : ∀ k, r = some k → w.heap.size ≤ k) : w.grownBy w2 none :=
  ⟨h'.os.trans h.os, h'.tape.trans h.tape, h'.output.trans h.output, Nat.le_trans h.size h'.size, fun k hk _ =>
    (h'.block k (Nat.lt_of_lt_of_le hk h.size) (fun e => by have := hr k e.symm; omega)).trans (h.block k hk (by simp))⟩

theorem grown_drew {w : World} (n : Nat) : w.grownBy (w.drewN n) none := ⟨rfl, rfl, rfl, Nat.le_refl _, fun _ _ _ => rfl⟩

/-- What the call owns reads as a row of integers. -/
theorem ints_of_own {k : IntKind} {w : World} {B : Nat} {e : TypeId} {v : Value} {l : List Int} (h : w.ownsRow B e 1 v l.length (l.map (.int k))) (hw : ∀ n ∈ l, (Lit.int k n).wf = true) : Ints k w v l := by
  rcases h.2 with ⟨rfl, hn⟩ | ⟨g, cap, cur, rfl, hb, hg, hc, hm, hs, ht⟩
  · exact ⟨none, 0, by rw [hn], by omega, by unfold maxLen; omega, hw, .inl (List.eq_nil_of_length_eq_zero hn)⟩
  · refine ⟨_, cap, rfl, hc, hm, hw, .inr ⟨g, 0, rfl, (Array.getElem?_eq_some_iff.1 hg).1, fun i hi => ?_⟩⟩
    have := h.cellAt i (by omega)
    rw [gI_eq hi]; simpa [hi] using this

theorem grown_own {w0 w w' : World} {e : TypeId} {size : Nat} {v : Value} {n : Nat} {xs : List Value} (h : w0.grownBy w none) (hown : w.ownsRow w0.heap.size e size v n xs) (hg : w.grownBy w' v.ownBlock) : w0.grownBy w' none :=
  grown_trans h hg fun k hk => (hown.lt k hk).1

theorem grown_refl (w : World) : w.grownBy w none := ⟨rfl, rfl, rfl, Nat.le_refl _, fun _ _ _ => rfl⟩

/-- 'append(s, x)' of one element of one cell, s the call's own: behind the new element's block. -/
theorem wpList_app1 {P : Program} (w : World) {ops : Array Oper} {rest : List Oper} {o : Oper} {a : Act} {Q : Exit → Act → World → Prop} (u : Value) (hgd : o.guard = none) (s x : Operand) (t : TypeId)
    (ho : o.op = .call { callee := .builtin .append, args := #[s, x], argTypes := #[t, t] })
    (base : Nat) (e : TypeId) (z : Value) (bytes : Nat) (ht : P.underlying t = some (.slice e)) (hinfo : (P.info? e).map (fun i => (i.zero, i.size, i.bytes)) = some (some z, 1, bytes)) (hzs : z.cells.size = 1)
    (v : Value) (n : Nat) (xs : List Value) (hown : w.ownsRow base e 1 v n xs) (hs : a.eval s = v) (hx : a.eval x = .slice (some ⟨w.heap.size, 0, none⟩) 1 1) (h1 : u.oneCell' = true)
    (h63 : n + 1 ≤ maxLen) (hbytes : (n + 1) * bytes ≤ 140737488355328) (hbase : base ≤ w.heap.size)
    (h : ∀ v' w', w'.ownsRow base e 1 v' (n + 1) (xs ++ [u]) → w.grownBy w' v.ownBlock → wpList P ops Q rest (a.put o.dst v') w') :
    wpList P ops Q (o :: rest) a (w.alloc (.cells #[u] e)) := by
  obtain ⟨i, hi, hz0, hz1, hz2⟩ := info_parts hinfo
  refine wpList_append_own (w.alloc (.cells #[u] e)) hgd s x t ho base e i z 1 bytes ht hi hz0 hz1 hz2 hzs (by decide) v n xs hs (hown.alloc _) ⟨w.heap.size, 0, none⟩ 1 1 [u] hx rfl ?_ ?_ h63 hbytes ?_ ?_
  · intro j y hj
    match j, hj with
    | 0, hj => simp at hj; subst hj; simp [Addr.add]
  · intro y hy
    have : y = u := by simpa using hy
    subst this
    exact h1
  · simp; omega
  · intro v' w' h2 h3 _
    refine h v' w' h2 ⟨h3.os, h3.tape, h3.output, Nat.le_trans (by simp) h3.size, fun k hk hne => ?_⟩
    rw [h3.block k (by simp; omega) hne]
    exact Below.heap_alloc w _ k hk

/-- The world w' is w behind some draws. -/
def Drawn (w w' : World) : Prop := ∃ n, w' = w.drewN n
theorem Drawn.refl (w : World) : Drawn w w := ⟨0, rfl⟩
theorem Drawn.trans {a b c : World} (h : Drawn a b) (h' : Drawn b c) : Drawn a c := by
  obtain ⟨n, rfl⟩ := h
  obtain ⟨m, rfl⟩ := h'
  exact ⟨n + m, World.drewN_drewN _ _ _⟩
theorem Drawn.more {a b : World} (h : Drawn a b) (n : Nat) : Drawn a (b.drewN n) := h.trans ⟨n, rfl⟩
theorem Drawn.cell {w w' : World} (h : Drawn w w') (a : Addr) : w'.cell? a = w.cell? a := by obtain ⟨n, rfl⟩ := h; rfl
theorem Drawn.grown {w w' : World} (h : Drawn w w') : w.grownBy w' none := by obtain ⟨n, rfl⟩ := h; exact grown_drew n
theorem Drawn.size {w w' : World} (h : Drawn w w') : w'.heap.size = w.heap.size := by obtain ⟨n, rfl⟩ := h; rfl
theorem Drawn.ints {w w' : World} (h : Drawn w w') {k : IntKind} {v : Value} {l : List Int} (hv : Ints k w v l) : Ints k w' v l := hv.grown h.grown
theorem grown_then_drawn {a b c : World} (h : a.grownBy b none) (h' : Drawn b c) : a.grownBy c none := grown_trans h h'.grown (by intro k hk; cases hk)

theorem ints_nil (k : IntKind) (w : World) : Ints k w (.slice none 0 0) [] := ⟨none, 0, rfl, by simp, by unfold maxLen; omega, by simp, .inl rfl⟩

/-- A slice of integers that came in, as the form opens it. -/
theorem ints_of_row {k : IntKind} {w : World} {x : Addr} {len cap : Nat} {zs : List Int} (hl : len ≤ cap) (hm : cap ≤ maxLen) (hz : zs.length = cap)
    (hc : ∀ i, i < zs.length → w.cell? (x.add i) = some (.int k (zs.getD i 0))) (hwz : ∀ n ∈ zs, (Lit.int k n).wf = true) : Ints k w (.slice (some x) len cap) (zs.take len) := by
  have hlen : (zs.take len).length = len := by rw [List.length_take]; omega
  refine ⟨some x, cap, by rw [hlen], by omega, hm, fun n hn => hwz n (List.mem_of_mem_take hn), ?_⟩
  by_cases h0 : len = 0
  · subst h0; exact .inl (by simp)
  · obtain ⟨b, off, rfl, hcell⟩ := ints_at hc (by omega)
    refine .inr ⟨b, off, rfl, ?_, fun i hi => ?_⟩
    · have := World.block_lt_of_cell? w _ (hcell 0 (by omega))
      simpa using this
    · rw [hlen] at hi
      rw [hcell i (by omega)]
      simp [gI, List.getD_eq_getElem?_getD, List.getElem?_take, hi]

end Go.Proofs.Ytcdfbfeeemaafaa
