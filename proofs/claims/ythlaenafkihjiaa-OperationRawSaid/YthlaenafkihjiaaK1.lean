/- Parts of the proof, laid together. No condition. -/
import Derived.Test.YthlaenafkihjiaaRows
import Derived.WalkKit
import Derived.WalkSpells
import Derived.Deep.QuietTactic
import Derived.BigQuiet
import Derived.Lib.Hide
import Derived.OpenShut
import Derived.Deep.AppendSrc
import Derived.Deep.RegionHeld3
import Derived.Deep.AppendLies
import Derived.Laws.BytesArg
import Derived.Orders
import Derived.Laws.Tables
/- Helpers over any program: rows of integers in memory, worlds that have grown. No condition. -/
namespace Go.Proofs.Ythlaenafkihjiaa
open Go.RowKit
set_option linter.unusedVariables false
set_option linter.unusedSimpArgs false

/-- The i-th number of a list, 0 behind its end. -/
def gI (l : List Int) (i : Nat) : Int := l.getD i 0

theorem gI_eq {l : List Int} {i : Nat} (h : i < l.length) : gI l i = l[i] := by simp [gI, h]

theorem gI_mem {l : List Int} {i : Nat} (h : i < l.length) : gI l i ∈ l := by rw [gI_eq h]; exact List.getElem_mem h

/-- The value v is a slice of integers of kind k whose elements are l. -/
def Ints (k : IntKind) (w : World) (v : Value) (l : List Int) : Prop :=
  ∃ a cap, v = .slice a l.length cap ∧ l.length ≤ cap ∧ cap ≤ maxLen ∧ (∀ n ∈ l, (Lit.int k n).wf = true) ∧
    (l = [] ∨ ∃ b off, a = some ⟨b, off, none⟩ ∧ b < w.heap.size ∧ ∀ i, i < l.length → w.cell? ⟨b, off + i, none⟩ = some (.int k (gI l i)))

theorem Ints.grown {k : IntKind} {w w' : World} {v : Value} {l : List Int} (h : Ints k w v l) (hg : w.grownBy w' none) : Ints k w' v l := by
  obtain ⟨a, cap, rfl, h1, h2, h3, h4⟩ := h
  refine ⟨a, cap, rfl, h1, h2, h3, ?_⟩
  rcases h4 with h4 | ⟨b, off, rfl, hb, hc⟩
  · exact .inl h4
  · refine .inr ⟨b, off, rfl, Nat.lt_of_lt_of_le hb hg.size, fun i hi => ?_⟩
    rw [World.cell?_of_block (w := w) (hg.block b hb (by simp))]
    exact hc i hi

theorem Ints.below {k : IntKind} {w w' : World} {v : Value} {l : List Int} (h : Ints k w v l) (hg : Below w.heap.size w w') : Ints k w' v l :=
  h.grown ⟨hg.os, hg.tape, hg.output, hg.size, fun k hk _ => hg.block k hk⟩

theorem below_of_grown {w w' : World} (h : w.grownBy w' none) : Below w.heap.size w w' :=
  ⟨h.os, h.tape, h.output, h.size, fun k hk => h.block k hk (by simp)⟩

theorem grown_of_below {w w' : World} (h : Below w.heap.size w w') : w.grownBy w' none :=
  ⟨h.os, h.tape, h.output, h.size, fun k hk _ => h.block k hk⟩

theorem grown_trans {w w1 w2 : World} {r : Option Nat} (h : w.grownBy w1 none) (h' : w1.grownBy w2 r) (hr : ∀ k, r = some k → w.heap.size ≤ k) : w.grownBy w2 none :=
  ⟨h'.os.trans h.os, h'.tape.trans h.tape, h'.output.trans h.output, Nat.le_trans h.size h'.size, fun k hk _ =>
    (h'.block k (Nat.lt_of_lt_of_le hk h.size) (fun e => by have := hr k e.symm; omega)).trans (h.block k hk (by simp))⟩

theorem _root_.Go.World.grownBy.trans' {w w1 w2 : World} (h : w.grownBy w1 none) (h' : w1.grownBy w2 none) : w.grownBy w2 none := grown_trans h h' (by intro k hk; cases hk)

theorem grown_drew {w : World} (n : Nat) : w.grownBy (w.drewN n) none := ⟨rfl, rfl, rfl, Nat.le_refl _, fun _ _ _ => rfl⟩

/-- What the call owns reads as a row of integers. -/
theorem ints_of_own {k : IntKind} {w : World} {B : Nat} {e : TypeId} {v : Value} {l : List Int} (h : w.ownsRow B e 1 v l.length (l.map (.int k))) (hw : ∀ n ∈ l, (Lit.int k n).wf = true) : Ints k w v l := by
  rcases h.2 with ⟨rfl, hn⟩ | ⟨g, cap, cur, rfl, hb, hg, hc, hm, hs, ht⟩
  · exact ⟨none, 0, by rw [hn], by omega, by unfold maxLen; omega, hw, .inl (List.eq_nil_of_length_eq_zero hn)⟩
  · refine ⟨_, cap, rfl, hc, hm, hw, .inr ⟨g, 0, rfl, (Array.getElem?_eq_some_iff.1 hg).1, fun i hi => ?_⟩⟩
    have := h.cellAt i (by omega)
    rw [gI_eq hi]; simpa [hi] using this

theorem grown_own {w0 w w' : World} {e : TypeId} {size : Nat} {v : Value} {n : Nat} {xs : List Value} (h : w0.grownBy w none) (hown : w.ownsRow w0.heap.size e size v n xs) (hg : w.grownBy w' v.ownBlock) : w0.grownBy w' none :=
  grown_trans h hg fun k hk => (hown.lt k hk).1

theorem grown_refl (w : World) : w.grownBy w none := ⟨rfl, rfl, rfl, Nat.le_refl _, fun _ _ _ => rfl⟩

/-- 'append(s, x)' of one element of one cell, s the call's own: behind the new element's block. -/
theorem wpList_app1 {P : Program} (w : World) {ops : Array Oper} {rest : List Oper} {o : Oper} {a : Act} {Q : Exit → Act → World → Prop} (u : Value) (hgd : o.guard = none) (s x : Operand) (t : TypeId)
    (ho : o.op = .call { callee := .builtin .append, args := #[s, x], argTypes := #[t, t] })
    (base : Nat) (e : TypeId) (z : Value) (bytes : Nat) (ht : P.underlying t = some (.slice e)) (hinfo : (P.info? e).map (fun i => (i.zero, i.size, i.bytes)) = some (some z, 1, bytes)) (hzs : z.cells.size = 1)
    (v : Value) (n : Nat) (xs : List Value) (hown : w.ownsRow base e 1 v n xs) (hs : a.eval s = v) (hx : a.eval x = .slice (some ⟨w.heap.size, 0, none⟩) 1 1) (h1 : u.oneCell' = true)
    (h63 : n + 1 ≤ maxLen) (hbytes : (n + 1) * bytes ≤ 140737488355328) (hbase : base ≤ w.heap.size)
    (h : ∀ v' w', w'.ownsRow base e 1 v' (n + 1) (xs ++ [u]) → w.grownBy w' v.ownBlock → wpList P ops Q rest (a.put o.dst v') w') :
    wpList P ops Q (o :: rest) a (w.alloc (.cells #[u] e)) := by
  obtain ⟨i, hi, hz0, hz1, hz2⟩ := info_parts hinfo
  refine wpList_append_own (w.alloc (.cells #[u] e)) hgd s x t ho base e i z 1 bytes ht hi hz0 hz1 hz2 hzs (by decide) v n xs hs (hown.alloc _) ⟨w.heap.size, 0, none⟩ 1 1 [u] hx rfl ?_ ?_ h63 hbytes ?_ ?_
  · intro j y hj
    match j, hj with
    | 0, hj => simp at hj; subst hj; simp [Addr.add]
  · intro y hy
    have : y = u := by simpa using hy
    subst this
    exact h1
  · simp; omega
  · intro v' w' h2 h3 _
    refine h v' w' h2 ⟨h3.os, h3.tape, h3.output, Nat.le_trans (by simp) h3.size, fun k hk hne => ?_⟩
    rw [h3.block k (by simp; omega) hne]
    exact Below.heap_alloc w _ k hk

/-- The world w' is w behind some draws. -/
def Drawn (w w' : World) : Prop := ∃ n, w' = w.drewN n
theorem Drawn.refl (w : World) : Drawn w w := ⟨0, rfl⟩
theorem Drawn.trans {a b c : World} (h : Drawn a b) (h' : Drawn b c) : Drawn a c := by
  obtain ⟨n, rfl⟩ := h
  obtain ⟨m, rfl⟩ := h'
  exact ⟨n + m, World.drewN_drewN _ _ _⟩
theorem Drawn.more {a b : World} (h : Drawn a b) (n : Nat) : Drawn a (b.drewN n) := h.trans ⟨n, rfl⟩
theorem Drawn.cell {w w' : World} (h : Drawn w w') (a : Addr) : w'.cell? a = w.cell? a := by obtain ⟨n, rfl⟩ := h; rfl
theorem Drawn.grown {w w' : World} (h : Drawn w w') : w.grownBy w' none := by obtain ⟨n, rfl⟩ := h; exact grown_drew n
theorem Drawn.size {w w' : World} (h : Drawn w w') : w'.heap.size = w.heap.size := by obtain ⟨n, rfl⟩ := h; rfl
theorem Drawn.ints {w w' : World} (h : Drawn w w') {k : IntKind} {v : Value} {l : List Int} (hv : Ints k w v l) : Ints k w' v l := hv.grown h.grown
theorem grown_then_drawn {a b c : World} (h : a.grownBy b none) (h' : Drawn b c) : a.grownBy c none := grown_trans h h'.grown (by intro k hk; cases hk)

theorem ints_nil (k : IntKind) (w : World) : Ints k w (.slice none 0 0) [] := ⟨none, 0, rfl, by simp, by unfold maxLen; omega, by simp, .inl rfl⟩

/-- A slice of integers that came in, as the form opens it. -/
theorem ints_of_row {k : IntKind} {w : World} {x : Addr} {len cap : Nat} {zs : List Int} (hl : len ≤ cap) (hm : cap ≤ maxLen) (hz : zs.length = cap)
    (hc : ∀ i, i < zs.length → w.cell? (x.add i) = some (.int k (zs.getD i 0))) (hwz : ∀ n ∈ zs, (Lit.int k n).wf = true) : Ints k w (.slice (some x) len cap) (zs.take len) := by
  have hlen : (zs.take len).length = len := by rw [List.length_take]; omega
  refine ⟨some x, cap, by rw [hlen], by omega, hm, fun n hn => hwz n (List.mem_of_mem_take hn), ?_⟩
  by_cases h0 : len = 0
  · subst h0; exact .inl (by simp)
  · obtain ⟨b, off, rfl, hcell⟩ := ints_at hc (by omega)
    refine .inr ⟨b, off, rfl, ?_, fun i hi => ?_⟩
    · have := World.block_lt_of_cell? w _ (hcell 0 (by omega))
      simpa using this
    · rw [hlen] at hi
      rw [hcell i (by omega)]
      simp [gI, List.getD_eq_getElem?_getD, List.getElem?_take, hi]

/-- 'append' of whatever source onto a slice of the call's own. -/
theorem run_appS {P : Program} (w : World) (base : Nat) (t tx ty e : TypeId) (i : TypeInfo) (z : Value) (size bytes : Nat) (ht : P.underlying t = some (.slice e)) (hi : P.info? e = some i) (hz : i.zero = some z)
    (hsize : i.size = size) (hby : i.bytes = bytes) (hzs : z.cells.size = size) (hsz : 0 < size) (v : Value) (n : Nat) (xs : List Value) (hown : w.ownsRow base e size v n xs)
    (x : Value) (m : Nat) (news : List Value) (hs : Src P size tx x m news w) (h63 : n + m ≤ maxLen) (hbytes : (n + m) * bytes ≤ 140737488355328) (hbase : base ≤ w.heap.size) :
    ∃ v' w', (Builtin.append_ #[t, tx] ty #[v, x]).run P w = .ok v' w' ∧ w'.ownsRow base e size v' (n + m) (xs ++ news) ∧ w.grownBy w' v.ownBlock ∧
      (v'.ownBlock = v.ownBlock ∨ v'.ownBlock = some w.heap.size) := by
  subst hsize
  subst hby
  have hl := hs.newsLen
  have hlen : (xs ++ news).length = (n + m) * i.size := by rw [List.length_append, hown.1, hl, Nat.add_mul]
  have hsmall : n + m ≤ 9223372036854775807 := by simp only [maxLen] at h63; omega
  have grown : ∀ (old : Nat) (row : Option Nat),
      (w.drew.alloc (.cells ((xs ++ news).toArray ++ Builtin.zeroCells z.cells (grownCap w (n + m) old e - (n + m))) e)).ownsRow base e i.size
        (.slice (some ⟨w.heap.size, 0, none⟩) (n + m) (grownCap w (n + m) old e)) (n + m) (xs ++ news) ∧
      w.grownBy (w.drew.alloc (.cells ((xs ++ news).toArray ++ Builtin.zeroCells z.cells (grownCap w (n + m) old e - (n + m))) e)) row := by
    intro old row
    have hge := grownCap_ge w (n + m) old e
    have hcm : grownCap w (n + m) old e ≤ maxLen := grownCap_le_maxLen w (n + m) old e h63
    refine ⟨⟨hlen, .inr ⟨w.heap.size, _, _, rfl, hbase, heap_alloc_new w.drew _, hge, hcm, ?_, ?_⟩⟩, ⟨rfl, rfl, rfl, by simp, fun k hk _ => Below.heap_alloc w.drew _ k hk⟩⟩
    · simp only [Array.size_append, List.size_toArray, size_zeroCells, hzs, hlen, ← Nat.add_mul]
      congr 1
      omega
    · simp only [Array.toList_append]
      rw [← hlen]
      exact List.take_left
  rcases hown.2 with ⟨rfl, rfl⟩ | ⟨g, cap, cur, rfl, hbg, hg, hnc, hcm, hcs, htake⟩
  · have hx : xs = [] := List.eq_nil_of_length_eq_zero (by simpa using hown.1)
    subst hx
    by_cases hm : m = 0
    · subst hm
      have hn : news = [] := List.eq_nil_of_length_eq_zero (by simpa using hl)
      subst hn
      refine ⟨.slice none 0 0, w, ?_, World.ownsRow_nil w base e i.size, ⟨rfl, rfl, rfl, Nat.le_refl _, fun _ _ _ => rfl⟩, .inl rfl⟩
      rcases hs.kind with ⟨e', hk⟩ | hk <;> simp [Builtin.append_, run_underlying ht, run_underlying hk, sizeOf, typeInfo, hi, hs.len, hs.cells]
    · have hr := run_append_grow_src (P := P) w t tx ty e i z ht hi hz none 0 0 [] (run_firstCells_none w.drew i.size 0 0 0) x m news hs (by omega) (by omega) (growslice_fits (by omega) (by simpa using hbytes))
      have hgr := grown 0 (Value.ownBlock (.slice none 0 0))
      simp only [Nat.zero_add, List.nil_append] at hgr hr ⊢
      exact ⟨_, _, hr, hgr.1, hgr.2, .inr rfl⟩
  · by_cases hroom : n + m ≤ cap
    · have hfit : n * i.size + news.length ≤ cur.size := by rw [hl, hcs, ← Nat.add_mul]; exact Nat.mul_le_mul_right _ hroom
      have hst := run_storeCells_at P g (n * i.size) e news 0 cur w hg (by simpa using hfit) hs.one
      simp only [Nat.add_zero] at hst
      have hr : (Builtin.append_ #[t, tx] ty #[.slice (some ⟨g, 0, none⟩) n cap, x]).run P w = .ok (.slice (some ⟨g, 0, none⟩) (n + m) cap) (w.setRow g (cur.toList.take (n * i.size) ++ news ++ cur.toList.drop (n * i.size + news.length)).toArray) := by
        rcases hs.kind with ⟨e', hk⟩ | hk <;> simp [Builtin.append_, run_underlying ht, run_underlying hk, sizeOf, typeInfo, hi, hs.len, hroom, hs.cells, Addr.add_lit, hst]
      refine ⟨_, _, hr, ⟨hlen, .inr ⟨g, cap, _, rfl, hbg, setRow_heap w g cur _ e _ hg, hroom, hcm, ?_, ?_⟩⟩, ⟨rfl, rfl, rfl, by simp, fun k _ hk => setRow_other w g k _ (fun e => hk (by simp [Value.ownBlock, e]))⟩, .inl rfl⟩
      · simp only [List.size_toArray, List.length_append, List.length_take, List.length_drop, Array.length_toList]
        omega
      · rw [htake, ← hlen]
        exact List.take_left
    · have hr := run_append_grow_src (P := P) w t tx ty e i z ht hi hz (some ⟨g, 0, none⟩) n cap xs (run_firstCells_some w.drew i.size n ⟨g, 0, none⟩ n cap xs hown.1 (by simpa using hown.cells (g := g) rfl)) x m news hs (by omega) (by omega) (growslice_fits (by omega) hbytes)
      have hgr := grown cap (Value.ownBlock (.slice (some ⟨g, 0, none⟩) n cap))
      exact ⟨_, _, hr, hgr.1, hgr.2, .inr rfl⟩

theorem wpList_appS {P : Program} (w : World) {ops : Array Oper} {rest : List Oper} {o : Oper} {a : Act} {Q : Exit → Act → World → Prop} (hgd : o.guard = none) (s x : Operand) (t tx : TypeId)
    (ho : o.op = .call { callee := .builtin .append, args := #[s, x], argTypes := #[t, tx] })
    (base : Nat) (e : TypeId) (z : Value) (size bytes : Nat) (ht : P.underlying t = some (.slice e)) (hinfo : (P.info? e).map (fun i => (i.zero, i.size, i.bytes)) = some (some z, size, bytes)) (hzs : z.cells.size = size) (hsz : 0 < size)
    (v xv : Value) (n m : Nat) (xs news : List Value) (hown : w.ownsRow base e size v n xs) (hs : a.eval s = v) (hx : a.eval x = xv) (hsrc : Src P size tx xv m news w)
    (h63 : n + m ≤ maxLen) (hbytes : (n + m) * bytes ≤ 140737488355328) (hbase : base ≤ w.heap.size)
    (h : ∀ v' w', w'.ownsRow base e size v' (n + m) (xs ++ news) → w.grownBy w' v.ownBlock → (v'.ownBlock = v.ownBlock ∨ v'.ownBlock = some w.heap.size) → wpList P ops Q rest (a.put o.dst v') w') :
    wpList P ops Q (o :: rest) a w := by
  obtain ⟨i, hi, hz0, hz1, hz2⟩ := info_parts hinfo
  obtain ⟨v', w', hr, h2, h3, h4⟩ := run_appS (P := P) w base t tx o.type e i z size bytes ht hi hz0 hz1 hz2 hzs hsz v n xs hown xv m news hsrc h63 hbytes hbase
  refine wpList_plain hgd fun _ hK => ?_
  unfold Oper.wp execOp
  simp only [ho, resolve, invoke, builtin, Sem.run_bind, Sem.run_pure, Result.andThen_ok, List.map_toArray, List.map_cons, List.map_nil, hs, hx, hr]
  exact hK _ _ (h v' w' h2 h3 h4)

theorem Ints.src {P : Program} {k : IntKind} {w : World} {v : Value} {l : List Int} (h : Ints k w v l) {tx e' : TypeId} (hk : P.underlying tx = some (.slice e')) : Src P 1 tx v l.length (l.map (.int k)) w := by
  obtain ⟨a, cap, rfl, h1, h2, h3, h4⟩ := h
  rcases h4 with rfl | ⟨b, off, rfl, hb, hc⟩
  · cases a with
    | none => exact Src.ofNil w hk cap
    | some a => exact Src.ofSlice w hk a 0 cap [] (by simp) (by simp) (by simp)
  · refine Src.ofSlice w hk ⟨b, off, none⟩ _ cap _ (by simp) ?_ (ints_oneCell _ _)
    intro j u hj
    have hjl : j < l.length := by
      have := (List.getElem?_eq_some_iff.1 hj).1
      simpa using this
    have hu : u = .int k l[j] := by
      have := (List.getElem?_eq_some_iff.1 hj).2
      simpa using this.symm
    have hadd : (⟨b, off, none⟩ : Addr).add j = ⟨b, off + j, none⟩ := by unfold Addr.add; split <;> simp_all
    rw [hadd, hc j hjl, hu, gI_eq hjl]

/-- A string's bytes as numbers. -/
def sI (s : ByteArray) : List Int := s.data.toList.map fun b => (b.toNat : Int)
theorem length_sI (s : ByteArray) : (sI s).length = s.size := by
  unfold sI; rw [List.length_map, Array.length_toList]; rfl
theorem byteCells_sI (s : ByteArray) : byteCells s = (sI s).map (.int .u8) := by simp [byteCells, sI]
theorem src_string {P : Program} (w : World) (s : ByteArray) {tx : TypeId} (hk : P.underlying tx = some .string) : Src P 1 tx (.string s) (sI s).length ((sI s).map (.int .u8)) w := by
  rw [length_sI, ← byteCells_sI]; exact Src.ofString w hk s

theorem grown_alloc (w : World) (o : Obj) : w.grownBy (w.alloc o) none := World.grownBy_alloc w o none

/-- A slice literal of one element. -/
theorem own_lit1 (w : World) (e : TypeId) (u : Value) : (w.alloc (.cells #[u] e)).ownsRow w.heap.size e 1 (.slice (some ⟨w.heap.size, 0, none⟩) 1 1) 1 [u] :=
  World.ownsRow_lit w #[u] 1 (Nat.le_refl _) (by unfold maxLen; omega) rfl

/-- .. owned from an elder base on. -/
theorem own_litB {B : Nat} (w : World) (e : TypeId) (u : Value) (hB : B ≤ w.heap.size) : (w.alloc (.cells #[u] e)).ownsRow B e 1 (.slice (some ⟨w.heap.size, 0, none⟩) 1 1) 1 [u] :=
  World.ownsRow_lit w #[u] 1 hB (by unfold maxLen; omega) rfl

/-- What the call owns, as append's source. -/
theorem own_src {P : Program} {w : World} {B : Nat} {e : TypeId} {size : Nat} {v : Value} {n : Nat} {xs : List Value} (h : w.ownsRow B e size v n xs) (h1 : ∀ u ∈ xs, u.oneCell' = true) {tx e' : TypeId} (hk : P.underlying tx = some (.slice e')) : Src P size tx v n xs w := by
  rcases h.2 with ⟨rfl, rfl⟩ | ⟨g, cap, cur, rfl, hb, hg, hc, hm, hs, ht⟩
  · have hx : xs = [] := List.eq_nil_of_length_eq_zero (by simpa using h.1)
    subst hx
    exact Src.ofNil w hk 0
  · exact Src.ofSlice w hk ⟨g, 0, none⟩ n cap xs h.1 (h.cells (g := g) rfl) h1

theorem own_shape {w : World} {B : Nat} {e : TypeId} {size : Nat} {v : Value} {n : Nat} {xs : List Value} (h : w.ownsRow B e size v n xs) : ∃ a cap, v = .slice a n cap ∧ n ≤ cap ∧ cap ≤ maxLen := by
  rcases h.2 with ⟨rfl, rfl⟩ | ⟨g, cap, cur, rfl, hb, hg, hc, hm, hs, ht⟩
  · exact ⟨none, 0, rfl, Nat.le_refl _, Nat.zero_le _⟩
  · exact ⟨_, cap, rfl, hc, hm⟩

theorem gI_u8 {l : List Int} (h : ∀ n ∈ l, (Lit.int .u8 n).wf = true) (i : Nat) : 0 ≤ gI l i ∧ gI l i ≤ 255 := by
  by_cases hi : i < l.length
  · exact bounds_u8 (h _ (gI_mem hi))
  · unfold gI
    rw [List.getD_eq_getElem?_getD, List.getElem?_eq_none (by omega)]
    simp
theorem gI_drop (l : List Int) (k i : Nat) : gI (l.drop k) i = gI l (k + i) := by simp [gI, List.getD_eq_getElem?_getD, List.getElem?_drop]
theorem gI_take {l : List Int} {k i : Nat} (h : i < k) : gI (l.take k) i = gI l i := by simp [gI, List.getD_eq_getElem?_getD, List.getElem?_take, h]
theorem take_succ_gI {l : List Int} {k : Nat} (h : k < l.length) : l.take (k + 1) = l.take k ++ [gI l k] := by rw [gI_eq h, List.take_succ_eq_append_getElem h]

theorem ints_empty (k : IntKind) (w : World) (a : Option Addr) (c : Nat) (hc : c ≤ maxLen) : Ints k w (.slice a 0 c) [] := ⟨a, c, rfl, Nat.zero_le _, hc, by simp, .inl rfl⟩

/-- A part of a row. -/
theorem ints_sub {k : IntKind} {w : World} {l : List Int} {b off : Nat} (hw : ∀ n ∈ l, (Lit.int k n).wf = true) (hb : b < w.heap.size) (hc : ∀ i, i < l.length → w.cell? ⟨b, off + i, none⟩ = some (.int k (gI l i)))
    (K N c : Nat) (h : K + N ≤ l.length) (hN : N ≤ c) (hm : c ≤ maxLen) : Ints k w (.slice (some ⟨b, off + K, none⟩) N c) ((l.drop K).take N) := by
  have hl : ((l.drop K).take N).length = N := by rw [List.length_take, List.length_drop]; omega
  refine ⟨_, c, by rw [hl], by omega, hm, fun n hn => hw n (List.mem_of_mem_drop (List.mem_of_mem_take hn)), .inr ⟨b, off + K, rfl, hb, fun i hi => ?_⟩⟩
  rw [hl] at hi
  rw [gI_take hi, gI_drop, Nat.add_assoc]
  exact hc (K + i) (by omega)

theorem run_string {P : Program} {w : World} {v : Value} {l : List Int} (hv : Ints .u8 w v l) {src e dst : TypeId} (hs : P.underlying src = some (.slice e)) (he : P.underlying e = some (.int .u8)) (hd : P.underlying dst = some .string) :
    (convert src dst v).run P w = .ok (.string (strOfNums l)) w := by
  obtain ⟨a, cap, rfl, h1, h2, h3, h4⟩ := hv
  rcases h4 with rfl | ⟨b, off, rfl, hb, hc⟩
  · rw [run_convert_bytes_string w src dst e a _ cap hs he hd]
    cases a with
    | none => simp [Conv.bytesToString]; rfl
    | some a =>
      rw [run_bytesToString w a _ cap [] (by simp [loadCells, loadCellsFrom])]
      rfl
  · exact run_convert_bytes_arg w src e hs he b off _ cap l rfl hc dst hd

/-- 'string(b)' for bytes b. -/
theorem wpList_string {P : Program} (w : World) {ops : Array Oper} {rest : List Oper} {o : Oper} {a : Act} {Q : Exit → Act → World → Prop} (hgd : o.guard = none) (src e dst : TypeId) (x : Operand) (ho : o.op = .convert src dst x)
    (hs : P.underlying src = some (.slice e)) (he : P.underlying e = some (.int .u8)) (hd : P.underlying dst = some .string) (v : Value) (l : List Int) (hx : a.eval x = v) (hv : Ints .u8 w v l)
    (h : wpList P ops Q rest (a.put o.dst (.string (strOfNums l))) w) : wpList P ops Q (o :: rest) a w := by
  refine wpList_plain hgd fun _ hK => ?_
  unfold Oper.wp execOp
  simp only [ho, hx, Sem.run_bind, run_string hv hs he hd, Result.andThen_ok, Sem.run_pure]
  exact hK _ _ h

theorem strOfNums_sI (s : ByteArray) : strOfNums (sI s) = s := by
  unfold strOfNums sI
  rw [List.map_map]
  have : ((fun n : Int => UInt8.ofNat n.toNat) ∘ fun b : UInt8 => (b.toNat : Int)) = id := by
    funext b
    simp
  rw [this]
  simp
theorem sI_strOfNums {l : List Int} (h : ∀ n ∈ l, (Lit.int .u8 n).wf = true) : sI (strOfNums l) = l := by
  unfold sI strOfNums
  simp only [List.map_map]
  rw [List.map_congr_left (g := id)]
  · simp
  · intro n hn
    have := bounds_u8 (h n hn)
    simp only [Function.comp_apply, id]
    rw [UInt8.toNat_ofNat']
    omega
theorem wf_sI (s : ByteArray) : ∀ n ∈ sI s, (Lit.int .u8 n).wf = true := by
  intro n hn
  simp only [sI, List.mem_map] at hn
  obtain ⟨b, _, rfl⟩ := hn
  have := b.toNat_lt
  simp [Lit.wf, IntKind.min, IntKind.max, IntKind.signed, IntKind.bits]
  omega

theorem own_lit4 (w : World) (e : TypeId) (a b c d : Value) : (w.alloc (.cells #[a, b, c, d] e)).ownsRow w.heap.size e 1 (.slice (some ⟨w.heap.size, 0, none⟩) 4 4) 4 [a, b, c, d] :=
  World.ownsRow_lit w #[a, b, c, d] 4 (Nat.le_refl _) (by unfold maxLen; omega) rfl

theorem results_tmp4 {fn : Func} {t u v x : Tmp} (h : fn.results = #[.tmp t, .tmp u, .tmp v, .tmp x]) (tmps : Array Value) (P : Program) (w : World) :
    (results fn tmps).run P w = .ok (.tuple #[tmps.getD t undef, tmps.getD u undef, tmps.getD v undef, tmps.getD x undef]) w := by
  simp [results, h]

theorem own_keep {w w' : World} {B : Nat} {e : TypeId} {size : Nat} {v : Value} {n : Nat} {xs : List Value} (h : w.ownsRow B e size v n xs) (hg : w.grownBy w' none) : w'.ownsRow B e size v n xs :=
  h.kept hg (by by_cases hv : v.ownBlock = none
                · exact .inl hv
                · exact .inr hv)

/-- 'append' of whatever source, at a step of a region that draws its order. -/
theorem step_appS {P : Program} (w : World) {ops : Array Oper} {o : Oper} {a : Act} {K : Act → World → Prop} {Q : Exit → Act → World → Prop} {E : Prop} (hgd : o.guard = none) (s x : Operand) (t tx : TypeId)
    (ho : o.op = .call { callee := .builtin .append, args := #[s, x], argTypes := #[t, tx] })
    (base : Nat) (e : TypeId) (z : Value) (size bytes : Nat) (ht : P.underlying t = some (.slice e)) (hinfo : (P.info? e).map (fun i => (i.zero, i.size, i.bytes)) = some (some z, size, bytes)) (hzs : z.cells.size = size) (hsz : 0 < size)
    (v xv : Value) (n m : Nat) (xs news : List Value) (hown : w.ownsRow base e size v n xs) (hs : a.eval s = v) (hx : a.eval x = xv) (hsrc : Src P size tx xv m news w)
    (h63 : n + m ≤ maxLen) (hbytes : (n + m) * bytes ≤ 140737488355328) (hbase : base ≤ w.heap.size)
    (h : ∀ v' w', w'.ownsRow base e size v' (n + m) (xs ++ news) → w.grownBy w' v.ownBlock → (v'.ownBlock = v.ownBlock ∨ v'.ownBlock = some w.heap.size) → K (a.put o.dst v') w') :
    if Region.wanted o (yielded ops a.tmps) = true then Oper.wp P o a w K Q else E := by
  have hw : Region.wanted o (yielded ops a.tmps) = true := by simp [Region.wanted, hgd]
  rw [if_pos hw]
  obtain ⟨i, hi, hz0, hz1, hz2⟩ := info_parts hinfo
  obtain ⟨v', w', hr, h2, h3, h4⟩ := run_appS (P := P) w base t tx o.type e i z size bytes ht hi hz0 hz1 hz2 hzs hsz v n xs hown xv m news hsrc h63 hbytes hbase
  unfold Oper.wp execOp
  simp only [ho, resolve, invoke, builtin, Sem.run_bind, Sem.run_pure, Result.andThen_ok, List.map_toArray, List.map_cons, List.map_nil, hs, hx, hr]
  exact h v' w' h2 h3 h4

theorem own_lit0 {B : Nat} (w : World) (e : TypeId) (hB : B ≤ w.heap.size) : (w.alloc (.cells #[] e)).ownsRow B e 1 (.slice (some ⟨w.heap.size, 0, none⟩) 0 0) 0 [] :=
  World.ownsRow_made w #[] 0 hB (by unfold maxLen; omega) rfl

theorem grown_drew1 (w : World) : w.grownBy w.drew none := ⟨rfl, rfl, rfl, Nat.le_refl _, fun _ _ _ => rfl⟩

theorem own_lit3 (w : World) (e : TypeId) (a b c : Value) : (w.alloc (.cells #[a, b, c] e)).ownsRow w.heap.size e 1 (.slice (some ⟨w.heap.size, 0, none⟩) 3 3) 3 [a, b, c] :=
  World.ownsRow_lit w #[a, b, c] 3 (Nat.le_refl _) (by unfold maxLen; omega) rfl

theorem ints_prefix {k : IntKind} {w : World} {a : Option Addr} {n c : Nat} {l : List Int} (h : Ints k w (.slice a n c) l) {j : Nat} (hj : j ≤ n) : Ints k w (.slice a j c) (l.take j) := by
  obtain ⟨a', cap, e, h1, h2, h3, h4⟩ := h
  cases e
  have hlen : (l.take j).length = j := by rw [List.length_take]; omega
  refine ⟨a, c, by rw [hlen], by omega, h2, fun n hn => h3 n (List.mem_of_mem_take hn), ?_⟩
  rcases h4 with rfl | ⟨b, off, rfl, hb, hc⟩
  · exact .inl (by simp)
  · refine .inr ⟨b, off, rfl, hb, fun i hi => ?_⟩
    rw [hlen] at hi
    rw [gI_take hi]
    exact hc i (by omega)

end Go.Proofs.Ythlaenafkihjiaa
/- More helpers over any program: own rows, cells of grown worlds. No condition. -/
namespace Go.Proofs.Ythlaenafkihjiaa
open Go.RowKit
set_option linter.unusedVariables false
set_option linter.unusedSimpArgs false
theorem own_lower {w : World} {B B' : Nat} {e : TypeId} {size : Nat} {v : Value} {n : Nat} {xs : List Value} (h : w.ownsRow B e size v n xs) (hb : B' ≤ B) : w.ownsRow B' e size v n xs := by
  refine ⟨h.1, ?_⟩
  rcases h.2 with h2 | ⟨g, cap, cur, h3, h4, h5⟩
  · exact .inl h2
  · exact .inr ⟨g, cap, cur, h3, Nat.le_trans hb h4, h5⟩
theorem kcell {W w1 : World} (hg : W.grownBy w1 none) {b o : Nat} {v : Value} (h : W.cell? ⟨b, o, none⟩ = some v) (hb : b < W.heap.size) : w1.cell? ⟨b, o, none⟩ = some v :=
  (World.cell?_of_block (w := W) (hg.block b hb (by simp))).trans h
theorem kfroz {W w1 : World} (hg : W.grownBy w1 none) {b o : Nat} {v : Bool} (h : W.frozen? ⟨b, o, none⟩ = v) (hb : b < W.heap.size) : w1.frozen? ⟨b, o, none⟩ = v :=
  (World.frozen?_of_block (w := W) (hg.block b hb (by simp))).trans h
theorem grown_set {w0 w : World} (h : w0.grownBy w none) {b o : Nat} (v : Value) (hb : w0.heap.size ≤ b) : w0.grownBy (w.setCell ⟨b, o, none⟩ v) none :=
  h.andThen (row' := some b) ⟨rfl, rfl, rfl, (by simp), fun k _ hk => Below.heap_setCell _ _ _ k (fun e => hk (by rw [e]))⟩ (fun j hj => by cases hj; exact .inl hb)
theorem gcell {W w1 : World} (hg : W.grownBy w1 none) : (∀ b o, b < W.heap.size → w1.cell? ⟨b, o, none⟩ = W.cell? ⟨b, o, none⟩) ∧ (∀ b o, b < W.heap.size → w1.frozen? ⟨b, o, none⟩ = W.frozen? ⟨b, o, none⟩) :=
  ⟨fun b o h => World.cell?_of_block (w := W) (hg.block b h (by simp)), fun b o h => World.frozen?_of_block (w := W) (hg.block b h (by simp))⟩
end Go.Proofs.Ythlaenafkihjiaa
/- More helpers over any program: rows and cells of worlds in which one block was written. No condition. -/
namespace Go.Proofs.Ythlaenafkihjiaa
open Go.RowKit
set_option linter.unusedVariables false
set_option linter.unusedSimpArgs false
theorem Ints.shape {k : IntKind} {w : World} {v : Value} {l : List Int} (h : Ints k w v l) : ∃ a cap, v = .slice a l.length cap := by
  obtain ⟨a, cap, e, _⟩ := h
  exact ⟨a, cap, e⟩
theorem grown_rdr {w0 w w' : World} {R : Nat} (h : w0.grownBy w none) (g : w.grownBy w' (some R)) (hR : w0.heap.size ≤ R) : w0.grownBy w' none :=
  grown_trans h g fun k hk => by cases hk; exact hR
theorem cell_rdr {w w' : World} {R b o : Nat} {v : Value} (g : w.grownBy w' (some R)) (h : w.cell? ⟨b, o, none⟩ = some v) (hb : b < w.heap.size) (hne : b ≠ R) : w'.cell? ⟨b, o, none⟩ = some v :=
  (World.cell?_of_block (w := w) (g.block b hb (by simpa using hne))).trans h
theorem froz_rdr {w w' : World} {R b o : Nat} {v : Bool} (g : w.grownBy w' (some R)) (h : w.frozen? ⟨b, o, none⟩ = v) (hb : b < w.heap.size) (hne : b ≠ R) : w'.frozen? ⟨b, o, none⟩ = v :=
  (World.frozen?_of_block (w := w) (g.block b hb (by simpa using hne))).trans h
theorem Ints.wfs {k : IntKind} {w : World} {v : Value} {l : List Int} (h : Ints k w v l) : ∀ n ∈ l, (Lit.int k n).wf = true := by
  obtain ⟨a, cap, _, _, _, h, _⟩ := h
  exact h
theorem Ints.size {k : IntKind} {w : World} {v : Value} {l : List Int} (h : Ints k w v l) : l.length ≤ 9223372036854775807 := by
  obtain ⟨a, cap, _, h1, h2, _⟩ := h
  unfold maxLen at h2
  omega
theorem bytes_ext {a b : ByteArray} (h : a.toList = b.toList) : a = b := by
  rw [ByteArray.toList_eq, ByteArray.toList_eq] at h
  cases a
  cases b
  congr
  exact Array.toList_inj.1 h
/-- A block of three cells that may be written. -/
def RCell (b : Nat) (x y z : Value) (w : World) : Prop := b < w.heap.size ∧ w.cell? ⟨b, 0, none⟩ = some x ∧ w.cell? ⟨b, 1, none⟩ = some y ∧ w.cell? ⟨b, 2, none⟩ = some z ∧ ∀ o, w.frozen? ⟨b, o, none⟩ = false
theorem RCell.keep {b : Nat} {x y z : Value} {w w' : World} (h : RCell b x y z w) (g : w.grownBy w' none) : RCell b x y z w' := by
  obtain ⟨h0, h1, h2, h3, h4⟩ := h
  exact ⟨Nat.lt_of_lt_of_le h0 g.size, kcell g h1 h0, kcell g h2 h0, kcell g h3 h0, fun o => kfroz g (h4 o) h0⟩
theorem RCell.rdr {b R : Nat} {x y z : Value} {w w' : World} (h : RCell b x y z w) (g : w.grownBy w' (some R)) (hne : b ≠ R) : RCell b x y z w' := by
  obtain ⟨h0, h1, h2, h3, h4⟩ := h
  exact ⟨Nat.lt_of_lt_of_le h0 g.size, cell_rdr g h1 h0 hne, cell_rdr g h2 h0 hne, cell_rdr g h3 h0 hne, fun o => froz_rdr g (h4 o) h0 hne⟩
end Go.Proofs.Ythlaenafkihjiaa
/- Abstract worlds: values without memory, and how a world of the program stands for them. No condition. -/
namespace Go.Proofs.Ythlaenafkihjiaa
open Go.RowKit
set_option linter.unusedVariables false
set_option linter.unusedSimpArgs false
/-- What a cell holds, seen without memory: v is a value without an address, l a list of rows of e cells each that is not written any more. -/
inductive PV where
  | v (x : Value)
  | l (e : Nat) (rows : List (List PV))
/-- A value without an address. -/
def atomB : Value → Bool
  | .bool _ => true
  | .int k n => (Lit.int k n).wf
  | .string s => decide (s.size ≤ maxLen)
  | .slice none 0 0 => true
  | .pointer none | .map none | .nilFunc | .nilIface => true
  | _ => false
/-- In the world w the value stands for the tree, whose blocks are among A. -/
inductive RP (w : World) (A : Nat → Prop) : PV → Value → Prop where
  | v (x : Value) (h : atomB x = true) : RP w A (.v x) x
  | l (e : Nat) (rows : List (List PV)) (a : Option Addr) (cap : Nat) (c : Nat → Nat → Value) (h1 : rows.length ≤ cap) (h2 : cap ≤ maxLen) (h3 : ∀ r ∈ rows, r.length = e)
      (h4 : rows = [] ∨ ∃ g off, a = some ⟨g, off, none⟩ ∧ A g ∧ g < w.heap.size ∧ ∀ i r k p, rows[i]? = some r → r[k]? = some p → w.cell? ⟨g, off + i * e + k, none⟩ = some (c i k))
      (h5 : ∀ i r k p, rows[i]? = some r → r[k]? = some p → RP w A p (c i k)) : RP w A (.l e rows) (.slice a rows.length cap)
theorem RP.mono {w w' : World} {A A' : Nat → Prop} {p : PV} {v : Value} (h : RP w A p v) (hA : ∀ g, A g → A' g) (hs : w.heap.size ≤ w'.heap.size) (hb : ∀ g, A g → g < w.heap.size → w'.heap[g]? = w.heap[g]?) : RP w' A' p v := by
  induction h with
  | v x h => exact .v x h
  | l e rows a cap c h1 h2 h3 h4 h5 ih =>
    refine .l e rows a cap c h1 h2 h3 ?_ ih
    rcases h4 with h4 | ⟨g, off, rfl, hg, hl, hc⟩
    · exact .inl h4
    · exact .inr ⟨g, off, rfl, hA g hg, by omega, fun i r k p hi hk => by rw [World.cell?_of_block (w := w) (hb g hg hl)]; exact hc i r k p hi hk⟩
theorem atomB_one {x : Value} (h : atomB x = true) : x.oneCell' = true := by
  cases x <;> simp_all [atomB, Value.oneCell']
theorem RP.one {w : World} {A : Nat → Prop} {p : PV} {v : Value} (h : RP w A p v) : v.oneCell' = true := by
  cases h with
  | v x h => exact atomB_one h
  | l => rfl
/-- A block's name: the slot that it was made in, and a number. -/
abbrev Bid := Nat × Nat
/-- What a cell holds, seen from a function that has blocks of its own. -/
inductive CV where
  | any
  | p (x : PV)
  | ptr (b : Bid) (i k : Nat)
  | sl (b : Bid) (off n : Nat)
  | ep (row : List PV) (k : Nat)
inductive TV where
  | c (x : CV)
  | agg (cs : List CV)
  | tup (ts : List TV)
/-- A block of the function's own: the rows of a slice (mu: it may be written), or a variable. -/
inductive Bk where
  | row (e : Nat) (rows : List (List PV)) (mu : Bool)
  | box (cs : List CV)
def Bk.e : Bk → Nat
  | .row e _ _ => e
  | .box _ => 0
def Bk.len : Bk → Nat
  | .row _ rows _ => rows.length
  | .box _ => 0
def lkN {α : Type} : List (Nat × α) → Nat → Option α
  | [], _ => none
  | (a, b) :: r, x => match Nat.beq a x with
    | true => some b
    | false => lkN r x
def beqB (a b : Bid) : Bool := Nat.beq a.1 b.1 && Nat.beq a.2 b.2
theorem beqB_iff {a b : Bid} : beqB a b = true ↔ a = b := by
  cases a; cases b; simp [beqB]
def lkB {α : Type} : List (Bid × α) → Bid → Option α
  | [], _ => none
  | (a, b) :: r, x => match beqB a x with
    | true => some b
    | false => lkB r x
structure St where
  fr : List (Nat × TV)
  H : List (Bid × Option Bk)
def St.g (st : St) (s : Nat) : TV := (lkN st.fr s).getD (.c .any)
def St.h (st : St) (b : Bid) : Option Bk := (lkB st.H b).getD none
structure Cx where
  ι : Bid → Option (Nat × Nat)
  A : Nat → Prop
def RC (cx : Cx) (w : World) (h : Bid → Option Bk) : CV → Value → Prop
  | .any, _ => True
  | .p x, v => RP w cx.A x v
  | .ptr b i k, v => ∀ bk, h b = some bk → ∃ g o, cx.ι b = some (g, o) ∧ v = .pointer (some ⟨g, o + i * bk.e + k, none⟩)
  | .sl b off n, v => ∀ bk, h b = some bk → ∃ a cap, v = .slice a n cap ∧ n ≤ cap ∧ cap ≤ maxLen ∧ off + n ≤ bk.len ∧
      (cap = 0 ∨ ∃ g c el fz, cx.ι b = some (g, 0) ∧ a = some ⟨g, off * bk.e, none⟩ ∧ w.heap[g]? = some (.cells c el fz) ∧ (0 < bk.e → c.size = (off + cap) * bk.e))
  | .ep row k, v => ∃ g off, v = .pointer (some ⟨g, off + k, none⟩) ∧ cx.A g ∧ g < w.heap.size ∧ ∀ j p, row[j]? = some p → ∃ c, w.cell? ⟨g, off + j, none⟩ = some c ∧ RP w cx.A p c
def RL (cx : Cx) (w : World) (h : Bid → Option Bk) (cs : List CV) (vs : Array Value) : Prop :=
  vs.size = cs.length ∧ ∀ (i : Nat) (c : CV), cs[i]? = some c → ∃ u, vs[i]? = some u ∧ u.oneCell' = true ∧ RC cx w h c u
def RT1 (cx : Cx) (w : World) (h : Bid → Option Bk) : TV → Value → Prop
  | .c x, v => (x = .any ∨ v.oneCell' = true) ∧ RC cx w h x v
  | .agg cs, v => ∃ vs, v = .agg vs ∧ RL cx w h cs vs
  | .tup _, _ => False
def RT (cx : Cx) (w : World) (h : Bid → Option Bk) : TV → Value → Prop
  | .tup ts, v => ∃ vs : Array Value, v = .tuple vs ∧ vs.size = ts.length ∧ ∀ (i : Nat) (t : TV), ts[i]? = some t → ∃ u, vs[i]? = some u ∧ RT1 cx w h t u
  | .c x, v => (x = .any ∨ v.oneCell' = true) ∧ RC cx w h x v
  | .agg cs, v => ∃ vs, v = .agg vs ∧ RL cx w h cs vs
def RB (cx : Cx) (w : World) (h : Bid → Option Bk) (b : Bid) : Bk → Prop
  | .row e rows mu => 0 < e ∧ (∀ r ∈ rows, r.length = e) ∧ match cx.ι b with
    | none => rows = []
    | some (g, o) => o = 0 ∧ ∃ c el fz capR, w.heap[g]? = some (.cells c el fz) ∧ (mu = true → fz = (0, 0) ∧ ¬ cx.A g) ∧ (mu = false → cx.A g) ∧ c.size = capR * e ∧ rows.length ≤ capR ∧ capR ≤ maxLen ∧
        ∀ i r k p, rows[i]? = some r → r[k]? = some p → ∃ cv, c[i * e + k]? = some cv ∧ RP w cx.A p cv
  | .box cs => ∃ g o c el, cx.ι b = some (g, o) ∧ w.heap[g]? = some (.cells c el (0, 0)) ∧ ¬ cx.A g ∧ o + cs.length ≤ c.size ∧ ∀ k x, cs[k]? = some x → ∃ cv, c[o + k]? = some cv ∧ cv.oneCell' = true ∧ RC cx w h x cv
/-- The call's beginning: its world, the blocks that are not written, and those of old that are. -/
structure En where
  w0 : World
  A0 : Nat → Prop
  M : Nat → Prop
  pin : Option (Nat × Nat)
/-- The name of the variable behind a pointer that came in. -/
def pinB : Bid := (65536, 0)
structure Rel (E : En) (N : Nat) (cx : Cx) (st : St) (a : Act) (w : World) : Prop where
  defers : a.defers = []
  size : a.tmps.size = N
  fr : ∀ s, RT cx w st.h (st.g s) (a.tmps.getD s undef)
  bl : ∀ b bk, st.h b = some bk → RB cx w st.h b bk
  inj : ∀ b b' g o g' o', st.h b ≠ none → st.h b' ≠ none → cx.ι b = some (g, o) → cx.ι b' = some (g', o') → b ≠ b' → g ≠ g'
  own : ∀ b g o, st.h b ≠ none → cx.ι b = some (g, o) → g < w.heap.size ∧ (E.w0.heap.size ≤ g ∨ E.M g)
  A : ∀ g, cx.A g → g < w.heap.size ∧ (E.A0 g ∨ E.w0.heap.size ≤ g ∨ E.M g)
  A0 : ∀ g, E.A0 g → cx.A g
  kept : ∀ g, g < E.w0.heap.size → ¬ E.M g → w.heap[g]? = E.w0.heap[g]?
  sz : E.w0.heap.size ≤ w.heap.size
  os : w.os = E.w0.os
  tape : w.tape = E.w0.tape
  output : w.output = E.w0.output
  hN : N ≤ 65536
  pin : cx.ι pinB = E.pin
/-- What does not change in a step: the blocks of A are kept, the heap does not shrink. -/
structure Keeps (A : Nat → Prop) (w w' : World) : Prop where
  sz : w.heap.size ≤ w'.heap.size
  bl : ∀ g, A g → g < w.heap.size → w'.heap[g]? = w.heap[g]?
theorem RP.keeps {w w' : World} {A A' : Nat → Prop} {p : PV} {v : Value} (h : RP w A p v) (hA : ∀ g, A g → A' g) (hk : Keeps A w w') : RP w' A' p v := h.mono hA hk.sz hk.bl
end Go.Proofs.Ythlaenafkihjiaa
/- A region of operations over abstract worlds: whatever the order that its edges allow, what comes out is what the order of the text gives. No condition. -/
namespace Go.Proofs.Ythlaenafkihjiaa
open Go.RowKit
set_option linter.unusedVariables false
set_option linter.unusedSimpArgs false
/-- What an operation changes: its own slot, and blocks. -/
structure Ef where
  t : TV
  bl : List (Bid × Option Bk)
/-- What an operation looks at: blocks; and the blocks that it makes. (The slots are its operands.) -/
structure Fp where
  rb : List Bid
  al : List Bid
def Ef.ap (ef : Ef) (o : Oper) (st : St) : St := ⟨o.dst.toList.map (·, ef.t) ++ st.fr, ef.bl ++ st.H⟩
def CV.ment : CV → List Bid
  | .ptr b _ _ | .sl b _ _ => [b]
  | _ => []
def mentL (cs : List CV) : List Bid := cs.flatMap CV.ment
def TV.ment1 : TV → List Bid
  | .c x => x.ment
  | .agg cs => mentL cs
  | .tup _ => []
def TV.ment : TV → List Bid
  | .tup ts => ts.flatMap TV.ment1
  | .c x => x.ment
  | .agg cs => mentL cs
def Bk.ment : Bk → List Bid
  | .row _ _ _ => []
  | .box cs => mentL cs
def oment : Option Bk → List Bid
  | none => []
  | some b => b.ment
def Ef.mt (ef : Ef) : List Bid := ef.t.ment ++ (ef.bl.flatMap (fun x => oment x.2) ++ ef.bl.map (·.1))
def FreshB (b : Bid) (st : St) : Prop := st.h b = none ∧ (∀ s, b ∉ (st.g s).ment) ∧ ∀ b' bk, st.h b' = some bk → b ∉ bk.ment
def OpOK (E : En) (N : Nat) (P : Program) (o : Oper) (st : St) (ef : Ef) : Prop :=
  (∀ d, o.dst = some d → d < N) → ∀ cx a w Q, Rel E N cx st a w → o.wp P a w (fun a' w' => ∃ cx', Rel E N cx' (ef.ap o st) a' w') Q
/-- What an operation looks at reads alike. -/
def Agree (ops : Array Oper) (o : Oper) (f : Fp) (st st' : St) : Prop := (∀ s ∈ o.looksAt ops, st'.g s = st.g s) ∧ (∀ b ∈ f.rb, st'.h b = st.h b)
def OpL (E : En) (N : Nat) (P : Program) (ops : Array Oper) (o : Oper) (st : St) (f : Fp) (ef : Ef) : Prop :=
  ∀ st', Agree ops o f st st' → (∀ b ∈ f.al, FreshB b st') → OpOK E N P o st' ef
/-- Is an operation run? -/
def wn (ops : Array Oper) (o : Oper) (st : St) : Option Bool :=
  match o.guard with
  | none => some true
  | some (j, want) => match (ops[j]?).bind (·.dst) with
    | none => none
    | some d => match st.g d with
      | .c (.p (.v (.bool b))) => some (b == want)
      | .tup [] => some false
      | _ => none
def OpAt (E : En) (N : Nat) (P : Program) (ops : Array Oper) (o : Oper) (st : St) (f : Fp) (ef : Ef) : Prop :=
  wn ops o st = some true ∧ OpL E N P ops o st f ef ∨ wn ops o st = some false ∧ True ∧ ef = ⟨.tup [], []⟩
theorem wn_agree {ops : Array Oper} {o : Oper} {st st' : St} (h : ∀ s ∈ o.looksAt ops, st'.g s = st.g s) : wn ops o st' = wn ops o st := by
  unfold wn
  cases hg : o.guard with
  | none => rfl
  | some x =>
    obtain ⟨j, want⟩ := x
    simp only
    cases hd : (ops[j]?).bind (·.dst) with
    | none => rfl
    | some d => simp only; rw [h d (by simp [Oper.looksAt, hg, hd])]
theorem wanted_of {E : En} {N : Nat} {cx : Cx} {ops : Array Oper} {o : Oper} {st : St} {a : Act} {w : World} {b : Bool} (hr : Rel E N cx st a w) (h : wn ops o st = some b) : Region.wanted o (yielded ops a.tmps) = b := by
  unfold wn at h
  unfold Region.wanted
  cases hg : o.guard with
  | none => simp only [hg] at h ⊢; exact Option.some.inj h
  | some x =>
    obtain ⟨j, want⟩ := x
    simp only [hg] at h ⊢
    cases hd : (ops[j]?).bind (·.dst) with
    | none => simp only [hd] at h; cases h
    | some d =>
      simp only [hd] at h
      have hf := hr.fr d
      split at h
      · rename_i bb hb
        rw [hb] at hf
        have hv : a.tmps.getD d undef = .bool bb := by
          revert hf
          generalize a.tmps.getD d undef = y
          intro hf
          cases hf.2 with | v _ _ => rfl
        have : a.tmps[d]? = some (.bool bb) := by
          cases hx : a.tmps[d]? with
          | none => rw [Array.getD_eq_getD_getElem?, hx] at hv; simp [undef] at hv
          | some y => rw [Array.getD_eq_getD_getElem?, hx] at hv; simpa using hv
        simp only [yielded, hd, Option.bind_some, this]
        have := Option.some.inj h
        rw [← this]
        cases bb <;> cases want <;> rfl
      · rename_i hb
        rw [hb] at hf
        obtain ⟨vs, hv, hz, _⟩ := hf
        have : yielded ops a.tmps j = none := by
          simp only [yielded, hd, Option.bind_some]
          cases hx : a.tmps[d]? with
          | none => rfl
          | some y =>
            rw [Array.getD_eq_getD_getElem?, hx] at hv
            simp only [Option.getD_some] at hv
            subst hv; rfl
        rw [this, ← Option.some.inj h]
        rfl
      · cases h
/-- The operations in the order of the text, each with what it looks at and changes. -/
inductive Seq (E : En) (N : Nat) (P : Program) (ops : Array Oper) : List Oper → St → List (Fp × Ef) → St → Prop
  | nil (st : St) : Seq E N P ops [] st [] st
  | cons {o : Oper} {r : List Oper} {st st' : St} {f : Fp} {ef : Ef} {es : List (Fp × Ef)} (h : OpAt E N P ops o st f ef) (hr : Seq E N P ops r (ef.ap o st) es st') : Seq E N P ops (o :: r) st ((f, ef) :: es) st'
theorem lkN_append {α : Type} (l r : List (Nat × α)) (x : Nat) : lkN (l ++ r) x = (lkN l x).or (lkN r x) := by
  induction l with
  | nil => rfl
  | cons y l ih =>
    obtain ⟨a, b⟩ := y
    simp only [List.cons_append, lkN]
    cases Nat.beq a x
    · exact ih
    · rfl
theorem lkB_append {α : Type} (l r : List (Bid × α)) (x : Bid) : lkB (l ++ r) x = (lkB l x).or (lkB r x) := by
  induction l with
  | nil => rfl
  | cons y l ih =>
    obtain ⟨a, b⟩ := y
    simp only [List.cons_append, lkB]
    cases beqB a x
    · exact ih
    · rfl
theorem lkN_none {α : Type} {l : List (Nat × α)} {x : Nat} (h : x ∉ l.map (·.1)) : lkN l x = none := by
  induction l with
  | nil => rfl
  | cons y l ih =>
    obtain ⟨a, b⟩ := y
    simp only [List.map_cons, List.mem_cons, not_or] at h
    simp only [lkN]
    have : Nat.beq a x = false := by
      cases hb : Nat.beq a x with
      | false => rfl
      | true => exact absurd (Nat.eq_of_beq_eq_true hb).symm h.1
    rw [this]
    exact ih h.2
theorem lkB_none {α : Type} {l : List (Bid × α)} {x : Bid} (h : x ∉ l.map (·.1)) : lkB l x = none := by
  induction l with
  | nil => rfl
  | cons y l ih =>
    obtain ⟨a, b⟩ := y
    simp only [List.map_cons, List.mem_cons, not_or] at h
    simp only [lkB]
    have : beqB a x = false := by
      cases hb : beqB a x with
      | false => rfl
      | true => exact absurd (beqB_iff.1 hb).symm h.1
    rw [this]
    exact ih h.2
theorem lkN_mem {α : Type} {l : List (Nat × α)} {x : Nat} {y : α} (h : lkN l x = some y) : (x, y) ∈ l := by
  induction l with
  | nil => cases h
  | cons z l ih =>
    obtain ⟨a, b⟩ := z
    simp only [lkN] at h
    cases hb : Nat.beq a x with
    | false => rw [hb] at h; exact List.mem_cons_of_mem _ (ih h)
    | true => rw [hb] at h; cases h; rw [Nat.eq_of_beq_eq_true hb]; exact List.mem_cons_self
theorem lkB_mem {α : Type} {l : List (Bid × α)} {x : Bid} {y : α} (h : lkB l x = some y) : (x, y) ∈ l := by
  induction l with
  | nil => cases h
  | cons z l ih =>
    obtain ⟨a, b⟩ := z
    simp only [lkB] at h
    cases hb : beqB a x with
    | false => rw [hb] at h; exact List.mem_cons_of_mem _ (ih h)
    | true => rw [hb] at h; cases h; rw [beqB_iff.1 hb]; exact List.mem_cons_self
theorem ap_g {ef : Ef} {o : Oper} {st : St} {s : Nat} (h : o.dst ≠ some s) : (ef.ap o st).g s = st.g s := by
  unfold St.g Ef.ap
  rw [lkN_append, lkN_none]
  · rfl
  · cases hd : o.dst with
    | none => simp
    | some d => rw [hd] at h; simp; exact fun e => h (by rw [e])
theorem ap_g_in {ef : Ef} {o : Oper} {st : St} {s : Nat} (h : o.dst = some s) : (ef.ap o st).g s = ef.t := by
  unfold St.g Ef.ap
  simp [h, lkN]
theorem ap_h {ef : Ef} {o : Oper} {st : St} {b : Bid} (h : b ∉ ef.bl.map (·.1)) : (ef.ap o st).h b = st.h b := by
  unfold St.h Ef.ap
  rw [lkB_append, lkB_none h]; rfl
theorem lkB_in {α : Type} {l : List (Bid × α)} {x : Bid} (h : x ∈ l.map (·.1)) : ∃ y, lkB l x = some y := by
  induction l with
  | nil => simp at h
  | cons z l ih =>
    obtain ⟨a, b⟩ := z
    simp only [lkB]
    cases hb : beqB a x with
    | true => exact ⟨_, rfl⟩
    | false =>
      rcases List.mem_cons.1 h with h | h
      · rw [h] at hb; simp [beqB] at hb
      · exact ih h
theorem ap_h_in {ef : Ef} {o o' : Oper} {st st' : St} {s : Bid} (h : s ∈ ef.bl.map (·.1)) : (ef.ap o st).h s = (ef.ap o' st').h s := by
  unfold St.h Ef.ap
  obtain ⟨y, hy⟩ := lkB_in h
  rw [lkB_append, lkB_append, hy]; rfl
/-- Two states that read alike. -/
def Alike (st st' : St) : Prop := (∀ s, st'.g s = st.g s) ∧ ∀ b, st'.h b = st.h b
theorem Rel.alike {E : En} {N : Nat} {cx : Cx} {st st' : St} {a : Act} {w : World} (h : Rel E N cx st a w) (ha : Alike st st') : Rel E N cx st' a w := by
  have hh : st'.h = st.h := funext ha.2
  exact ⟨h.defers, h.size, fun s => by rw [hh, ha.1]; exact h.fr s, fun b bk hb => by rw [hh] at hb ⊢; exact h.bl b bk hb, fun b b' g o g' o' h1 h2 => by rw [hh] at h1 h2; exact h.inj b b' g o g' o' h1 h2,
    fun b g o h1 => by rw [hh] at h1; exact h.own b g o h1, h.A, h.A0, h.kept, h.sz, h.os, h.tape, h.output, h.hN, h.pin⟩
/-- The effects of the operations of X, in the order of the text. -/
def apX (X : Nat → Bool) : Nat → List (Oper × Ef) → St → St
  | _, [], st => st
  | i, (o, ef) :: es, st => apX X (i + 1) es (if X i then ef.ap o st else st)
theorem apX_g {X Y : Nat → Bool} {s : Nat} : ∀ (l : List (Oper × Ef)) (i : Nat) (st st' : St), (∀ (j : Nat) (x : Oper × Ef), l[j]? = some x → x.1.dst = some s → X (i + j) = Y (i + j)) → st'.g s = st.g s → (apX Y i l st').g s = (apX X i l st).g s := by
  intro l
  induction l with
  | nil => intro i st st' _ h; exact h
  | cons x l ih =>
    intro i st st' hxy h
    obtain ⟨o, ef⟩ := x
    simp only [apX]
    refine ih (i + 1) _ _ (fun j x hj hd => by have := hxy (j + 1) x (by simpa using hj) hd; rw [Nat.add_assoc, Nat.add_comm 1 j]; exact this) ?_
    by_cases hd : o.dst = some s
    · have := hxy 0 (o, ef) rfl hd
      rw [Nat.add_zero] at this
      rw [this]
      split
      · rw [ap_g_in hd, ap_g_in hd]
      · exact h
    · split <;> split <;> simp only [ap_g hd, h]
theorem apX_h {X Y : Nat → Bool} {b : Bid} : ∀ (l : List (Oper × Ef)) (i : Nat) (st st' : St), (∀ (j : Nat) (x : Oper × Ef), l[j]? = some x → b ∈ x.2.bl.map (·.1) → X (i + j) = Y (i + j)) → st'.h b = st.h b → (apX Y i l st').h b = (apX X i l st).h b := by
  intro l
  induction l with
  | nil => intro i st st' _ h; exact h
  | cons x l ih =>
    intro i st st' hxy h
    obtain ⟨o, ef⟩ := x
    simp only [apX]
    refine ih (i + 1) _ _ (fun j x hj hd => by have := hxy (j + 1) x (by simpa using hj) hd; rw [Nat.add_assoc, Nat.add_comm 1 j]; exact this) ?_
    by_cases hd : b ∈ ef.bl.map (·.1)
    · have := hxy 0 (o, ef) rfl hd
      rw [Nat.add_zero] at this
      rw [this]
      split
      · exact ap_h_in hd
      · exact h
    · split <;> split <;> simp only [ap_h hd, h]
/-- The last that writes is seen. -/
theorem apX_g_last {X : Nat → Bool} {s : Nat} {o : Oper} {ef : Ef} (hd : o.dst = some s) : ∀ (l : List (Oper × Ef)) (i k : Nat) (st : St), l[k]? = some (o, ef) → X (i + k) = true → (∀ (j : Nat) (x : Oper × Ef), k < j → l[j]? = some x → x.1.dst = some s → X (i + j) = false) → (apX X i l st).g s = ef.t := by
  intro l
  induction l with
  | nil => intro i k st h; simp at h
  | cons x l ih =>
    intro i k st h hX hj
    obtain ⟨o', ef'⟩ := x
    simp only [apX]
    cases k with
    | zero =>
      simp only [List.getElem?_cons_zero, Option.some.injEq, Prod.mk.injEq] at h
      obtain ⟨rfl, rfl⟩ := h
      rw [Nat.add_zero] at hX
      rw [hX, if_pos rfl]
      rw [apX_g (X := fun _ => false) (Y := X) l (i + 1) (ef'.ap o' st) (ef'.ap o' st) (fun j x hx hs => by have := hj (j + 1) x (by omega) (by simpa using hx) hs; rw [Nat.add_assoc, Nat.add_comm 1 j]; exact this.symm) rfl]
      have : ∀ (l : List (Oper × Ef)) (i : Nat) (st : St), apX (fun _ => false) i l st = st := by
        intro l
        induction l with
        | nil => intro i st; rfl
        | cons x l ih => intro i st; obtain ⟨a, b⟩ := x; simp only [apX]; exact ih _ _
      rw [this, ap_g_in hd]
    | succ k =>
      exact ih (i + 1) k _ (by simpa using h) (by rw [Nat.add_assoc, Nat.add_comm 1 k]; exact hX) (fun j x hk hx hs => by have := hj (j + 1) x (by omega) (by simpa using hx) hs; rw [Nat.add_assoc, Nat.add_comm 1 j]; exact this)
theorem apX_none : ∀ (l : List (Oper × Ef)) (i : Nat) (st : St), apX (fun _ => false) i l st = st := by
  intro l
  induction l with
  | nil => intro i st; rfl
  | cons x l ih => intro i st; obtain ⟨a, b⟩ := x; simp only [apX]; exact ih _ _
theorem apX_h_last {X : Nat → Bool} {b : Bid} {o o2 : Oper} {ef : Ef} {st2 : St} (hd : b ∈ ef.bl.map (·.1)) : ∀ (l : List (Oper × Ef)) (i k : Nat) (st : St), l[k]? = some (o, ef) → X (i + k) = true → (∀ (j : Nat) (x : Oper × Ef), k < j → l[j]? = some x → b ∈ x.2.bl.map (·.1) → X (i + j) = false) → (apX X i l st).h b = (ef.ap o2 st2).h b := by
  intro l
  induction l with
  | nil => intro i k st h; simp at h
  | cons x l ih =>
    intro i k st h hX hj
    obtain ⟨o', ef'⟩ := x
    simp only [apX]
    cases k with
    | zero =>
      simp only [List.getElem?_cons_zero, Option.some.injEq, Prod.mk.injEq] at h
      obtain ⟨rfl, rfl⟩ := h
      rw [Nat.add_zero] at hX
      rw [hX, if_pos rfl]
      rw [apX_h (X := fun _ => false) (Y := X) l (i + 1) (ef'.ap o' st) (ef'.ap o' st) (fun j x hx hs => by have := hj (j + 1) x (by omega) (by simpa using hx) hs; rw [Nat.add_assoc, Nat.add_comm 1 j]; exact this.symm) rfl, apX_none]
      exact ap_h_in hd
    | succ k =>
      exact ih (i + 1) k _ (by simpa using h) (by rw [Nat.add_assoc, Nat.add_comm 1 k]; exact hX) (fun j x hk hx hs => by have := hj (j + 1) x (by omega) (by simpa using hx) hs; rw [Nat.add_assoc, Nat.add_comm 1 j]; exact this)
/-- A block that nobody speaks of stays fresh. -/
theorem apX_fresh {X : Nat → Bool} {b : Bid} : ∀ (l : List (Oper × Ef)) (i : Nat) (st : St), FreshB b st → (∀ (j : Nat) (x : Oper × Ef), l[j]? = some x → X (i + j) = true → b ∉ x.2.mt) → FreshB b (apX X i l st) := by
  intro l
  induction l with
  | nil => intro i st h _; exact h
  | cons x l ih =>
    intro i st h hj
    obtain ⟨o, ef⟩ := x
    simp only [apX]
    refine ih (i + 1) _ ?_ (fun j x hx hX => hj (j + 1) x (by simpa using hx) (by rw [Nat.add_assoc, Nat.add_comm 1 j] at hX; exact hX))
    split
    · rename_i hX
      have hm := hj 0 (o, ef) rfl (by rw [Nat.add_zero]; exact hX)
      simp only [Ef.mt, List.mem_append, not_or] at hm
      obtain ⟨h1, h2, h3⟩ := h
      refine ⟨by rw [ap_h hm.2.2]; exact h1, fun s => ?_, fun b' bk hb => ?_⟩
      · by_cases hd : o.dst = some s
        · rw [ap_g_in hd]; exact hm.1
        · rw [ap_g hd]; exact h2 s
      · by_cases hk : b' ∈ ef.bl.map (·.1)
        · unfold St.h Ef.ap at hb
          obtain ⟨y, hy⟩ := lkB_in hk
          rw [lkB_append, hy] at hb
          simp only [Option.some_or, Option.getD_some] at hb
          subst hb
          have := hm.2.1
          simp only [List.mem_flatMap, not_exists, not_and] at this
          exact this _ (lkB_mem hy)
        · rw [ap_h hk] at hb; exact h3 b' bk hb
    · exact h
end Go.Proofs.Ythlaenafkihjiaa
/- The law of regions over abstract worlds. No condition. -/
namespace Go.Proofs.Ythlaenafkihjiaa
open Go.RowKit
set_option linter.unusedVariables false
set_option linter.unusedSimpArgs false
def preds (o : Oper) : List Nat := (o.after.toList.filter (Region.binds .any)).map (·.on)
def ancGo : List Oper → List (List Nat) → List (List Nat)
  | [], acc => acc
  | o :: r, acc => ancGo r (acc ++ [preds o ++ (preds o).flatMap (acc.getD · [])])
def memN : List Nat → Nat → Bool
  | [], _ => false
  | a :: r, x => Nat.beq a x || memN r x
theorem memN_iff {l : List Nat} {x : Nat} : memN l x = true ↔ x ∈ l := by
  induction l with
  | nil => simp [memN]
  | cons a r ih =>
    simp only [memN, Bool.or_eq_true, List.mem_cons, ih]
    constructor
    · rintro (h | h)
      · exact .inl (Nat.eq_of_beq_eq_true h).symm
      · exact .inr h
    · rintro (rfl | h)
      · exact .inl (by simp)
      · exact .inr h
def memB : List Bid → Bid → Bool
  | [], _ => false
  | a :: r, x => beqB a x || memB r x
theorem memB_iff {l : List Bid} {x : Bid} : memB l x = true ↔ x ∈ l := by
  induction l with
  | nil => simp [memB]
  | cons a r ih =>
    simp only [memB, Bool.or_eq_true, List.mem_cons, ih, beqB_iff]
    constructor
    · rintro (h | h)
      · exact .inl h.symm
      · exact .inr h
    · rintro (rfl | h)
      · exact .inl rfl
      · exact .inr h
def disB (l m : List Bid) : Bool := l.all fun x => !memB m x
theorem disB_spec {l m : List Bid} (h : disB l m = true) : ∀ x ∈ l, x ∉ m := by
  intro x hx hm
  have := List.all_eq_true.1 h x hx
  simp [memB_iff.2 hm] at this
def Ef.wb (ef : Ef) : List Bid := ef.bl.map (·.1)
def ltAll (i : Nat) (f : Nat → Bool) : Bool := match i with
  | 0 => true
  | i + 1 => f i && ltAll i f
theorem ltAll_spec {f : Nat → Bool} : ∀ {i : Nat}, ltAll i f = true → ∀ j, j < i → f j = true := by
  intro i
  induction i with
  | zero => intro _ j h; omega
  | succ i ih =>
    intro h j hj
    simp only [ltAll, Bool.and_eq_true] at h
    by_cases e : j = i
    · rw [e]; exact h.1
    · exact ih h.2 j (by omega)
def dO : Oper := default
/-- Slots: unordered operations do not meet, and edges point back. -/
def schS (N : Nat) (l : List Oper) : Bool :=
  ltAll l.length fun i => (l.getD i dO).dst.all (fun d => Nat.blt d N) && (preds (l.getD i dO)).all (fun p => Nat.blt p i) &&
    ltAll i fun j => (Oper.apart l.toArray (l.getD j dO) (l.getD i dO)) || memN ((ancGo l []).getD i []) j
def dFE : Fp × Ef := (⟨[], []⟩, ⟨.c .any, []⟩)
/-- Blocks: unordered operations do not meet, and nobody speaks of a block before it is made. -/
def chkD (l : List Oper) (es : List (Fp × Ef)) : Bool :=
  ltAll l.length fun i => ltAll i fun j =>
    ((disB (es.getD j dFE).2.wb ((es.getD i dFE).1.rb ++ (es.getD i dFE).2.wb) && disB (es.getD j dFE).1.rb (es.getD i dFE).2.wb && disB (es.getD j dFE).1.al (es.getD i dFE).2.mt) || memN ((ancGo l []).getD i []) j)
    && disB (es.getD i dFE).1.al (es.getD j dFE).2.mt
/-- For a region in the order of its text. -/
def chkT (es : List (Fp × Ef)) : Bool := ltAll es.length fun i => ltAll i fun j => disB (es.getD i dFE).1.al (es.getD j dFE).2.mt
def chkN (N : Nat) (l : List Oper) : Bool := l.all fun o => o.dst.all (fun d => Nat.blt d N)
theorem anc_closed {l : List Oper} {X : Nat → Bool} (hX : ∀ i o, l[i]? = some o → X i = true → ∀ p ∈ preds o, X p = true) :
    ∀ i o, l[i]? = some o → (∀ p ∈ preds o, X p = true) → ∀ j ∈ (ancGo l []).getD i [], X j = true := by
  have key : ∀ (r : List Oper) (acc : List (List Nat)) (k : Nat), acc.length = k → (∀ j, r[j]? = l[k + j]?) →
      (∀ i o, i < k → l[i]? = some o → (∀ p ∈ preds o, X p = true) → ∀ j ∈ acc.getD i [], X j = true) →
      ∀ i o, l[i]? = some o → (∀ p ∈ preds o, X p = true) → ∀ j ∈ (ancGo r acc).getD i [], X j = true := by
    intro r
    induction r with
    | nil =>
      intro acc k hk hr hg i o ho hp j hj
      have hlt : i < k := by
        rcases Nat.lt_or_ge i k with h | h
        · exact h
        · have := hr (i - k)
          rw [show k + (i - k) = i by omega, ho] at this
          simp at this
      exact hg i o hlt ho hp j hj
    | cons y r ih =>
      intro acc k hk hr hg i o ho hp j hj
      simp only [ancGo] at hj
      have hy : l[k]? = some y := by have := hr 0; simpa using this.symm
      refine ih _ (k + 1) (by simp [hk]) (fun j => by have := hr (j + 1); rw [List.getElem?_cons_succ] at this; rw [this]; congr 1; omega) ?_ i o ho hp j hj
      intro i' o' hi' ho' hp' j' hj'
      by_cases e : i' < k
      · rw [List.getD_eq_getElem?_getD, List.getElem?_append_left (by omega)] at hj'
        exact hg i' o' e ho' hp' j' (by rw [List.getD_eq_getElem?_getD]; exact hj')
      · obtain rfl : i' = k := by omega
        rw [hy] at ho'
        obtain rfl := Option.some.inj ho'
        rw [List.getD_eq_getElem?_getD, List.getElem?_append_right (by omega)] at hj'
        simp only [hk, Nat.sub_self, List.getElem?_cons_zero, Option.getD_some, List.mem_append, List.mem_flatMap] at hj'
        rcases hj' with hj' | ⟨p, hp1, hp2⟩
        · exact hp' j' hj'
        · have hXp := hp' p hp1
          by_cases hpk : p < acc.length
          · have hpl : p < l.length := by
              have := (List.getElem?_eq_some_iff.1 hy).1
              omega
            have hpo : l[p]? = some l[p] := List.getElem?_eq_getElem hpl
            exact hg p _ (by omega) hpo (hX p _ hpo hXp) j' hp2
          · rw [List.getD_eq_getElem?_getD, List.getElem?_eq_none (by omega)] at hp2
            simp at hp2
  exact key l [] 0 rfl (fun j => by simp) (fun i o h => by omega)
theorem Rel.drew {E : En} {N : Nat} {cx : Cx} {st : St} {a : Act} {w : World} (h : Rel E N cx st a w) : Rel E N cx st a { w with drawn := w.drawn + 1 } := by
  have hRP : ∀ {A : Nat → Prop} {p : PV} {v : Value}, RP w A p v → RP { w with drawn := w.drawn + 1 } A p v := fun h => h.mono (fun _ h => h) (Nat.le_refl _) (fun _ _ _ => rfl)
  have hRC : ∀ (c : CV) (v : Value), RC cx w st.h c v → RC cx { w with drawn := w.drawn + 1 } st.h c v := by
    intro c v h
    cases c with
    | any => trivial
    | p x => exact hRP h
    | ptr b i k => exact h
    | sl b off n => exact h
    | ep row k =>
      obtain ⟨g, off, h1, h2, h3, h4⟩ := h
      exact ⟨g, off, h1, h2, h3, fun j p hp => let ⟨c, hc, hp⟩ := h4 j p hp; ⟨c, hc, hRP hp⟩⟩
  have hRL : ∀ (cs : List CV) (vs : Array Value), RL cx w st.h cs vs → RL cx { w with drawn := w.drawn + 1 } st.h cs vs := fun cs vs h => ⟨h.1, fun i c hc => let ⟨u, hu, h1, hr⟩ := h.2 i c hc; ⟨u, hu, h1, hRC c u hr⟩⟩
  refine ⟨h.defers, h.size, fun s => ?_, fun b bk hb => ?_, h.inj, h.own, h.A, h.A0, h.kept, h.sz, h.os, h.tape, h.output, h.hN, h.pin⟩
  · have := h.fr s
    revert this
    cases st.g s with
    | c x => exact fun h => ⟨h.1, hRC x _ h.2⟩
    | agg cs => rintro ⟨vs, h1, h2⟩; exact ⟨vs, h1, hRL _ _ h2⟩
    | tup ts =>
      rintro ⟨vs, h1, h2, h3⟩
      refine ⟨vs, h1, h2, fun i t ht => ?_⟩
      obtain ⟨u, hu, hr⟩ := h3 i t ht
      refine ⟨u, hu, ?_⟩
      cases t with
      | c x => exact ⟨hr.1, hRC x _ hr.2⟩
      | agg cs => obtain ⟨us, h4, h5⟩ := hr; exact ⟨us, h4, hRL _ _ h5⟩
      | tup ts => exact hr
  · have := h.bl b bk hb
    cases bk with
    | row e rows mu =>
      obtain ⟨h0, h1, h2⟩ := this
      refine ⟨h0, h1, ?_⟩
      revert h2
      cases cx.ι b with
      | none => exact id
      | some x =>
        obtain ⟨g, o⟩ := x
        rintro ⟨h3, c, el, fz, capR, h4, h5, h6, h7, h8, h9, h10⟩
        exact ⟨h3, c, el, fz, capR, h4, h5, h6, h7, h8, h9, fun i r k p hi hk => let ⟨cv, hc, hp⟩ := h10 i r k p hi hk; ⟨cv, hc, hRP hp⟩⟩
    | box cs =>
      obtain ⟨g, o, c, el, h1, h2, h3, h4, h5⟩ := this
      exact ⟨g, o, c, el, h1, h2, h3, h4, fun k x hx => let ⟨cv, hc, h1, hp⟩ := h5 k x hx; ⟨cv, hc, h1, hRC x cv hp⟩⟩
theorem Seq.len {E : En} {N : Nat} {P : Program} {ops : Array Oper} {l : List Oper} {st st' : St} {es : List (Fp × Ef)} (h : Seq E N P ops l st es st') : es.length = l.length := by
  induction h with
  | nil => rfl
  | cons _ _ ih => simp [ih]
def zipE (l : List Oper) (es : List (Fp × Ef)) : List (Oper × Ef) := l.zip (es.map (·.2))
theorem zipE_at {l : List Oper} {es : List (Fp × Ef)} {i : Nat} {o : Oper} {f : Fp} {ef : Ef} (ho : l[i]? = some o) (he : es[i]? = some (f, ef)) : (zipE l es)[i]? = some (o, ef) := by
  simp [zipE, List.getElem?_zip_eq_some, ho, he]
theorem zipE_inv {l : List Oper} {es : List (Fp × Ef)} {i : Nat} {o : Oper} {ef : Ef} (h : (zipE l es)[i]? = some (o, ef)) : l[i]? = some o ∧ ∃ f, es[i]? = some (f, ef) := by
  simp only [zipE, List.getElem?_zip_eq_some, List.getElem?_map, Option.map_eq_some_iff] at h
  obtain ⟨h1, ⟨f, ef'⟩, h2, rfl⟩ := h
  exact ⟨h1, f, h2⟩
/-- In the order of the text, the i-th operation stands before the effects of those below it. -/
theorem Seq.at {E : En} {N : Nat} {P : Program} {ops : Array Oper} {l : List Oper} {st st' : St} {es : List (Fp × Ef)} (h : Seq E N P ops l st es st') :
    (∀ (i k : Nat) (o : Oper) (f : Fp) (ef : Ef), l[i]? = some o → es[i]? = some (f, ef) → OpAt E N P ops o (apX (fun j => decide (j < k + i)) k (zipE l es) st) f ef) ∧
    (∀ k, apX (fun _ => true) k (zipE l es) st = st') := by
  induction h with
  | nil st => exact ⟨fun i k o f ef h => by simp at h, fun k => rfl⟩
  | @cons o r st st' f ef es h hr ih =>
    constructor
    · intro i k o' f' ef' ho he
      cases i with
      | zero =>
        simp only [List.getElem?_cons_zero, Option.some.injEq, Prod.mk.injEq] at ho he
        obtain ⟨rfl, rfl⟩ := he
        subst ho
        have : Alike st (apX (fun j => decide (j < k + 0)) k (zipE (o :: r) ((f, ef) :: es)) st) := by
          have e : apX (fun _ => false) k (zipE (o :: r) ((f, ef) :: es)) st = st := apX_none _ _ _
          constructor
          · intro s
            conv => rhs; rw [← e]
            exact apX_g _ _ _ _ (fun j x _ _ => by simp) rfl
          · intro s
            conv => rhs; rw [← e]
            exact apX_h _ _ _ _ (fun j x _ _ => by simp) rfl
        rcases h with ⟨h1, h2⟩ | ⟨h1, h2⟩
        · refine .inl ⟨by rw [wn_agree (fun s _ => this.1 s)]; exact h1, fun st2 ha hf => h2 st2 ⟨fun s hs => (ha.1 s hs).trans (this.1 s), fun b hb => (ha.2 b hb).trans (this.2 b)⟩ hf⟩
        · exact .inr ⟨by rw [wn_agree (fun s _ => this.1 s)]; exact h1, h2⟩
      | succ i =>
        have := ih.1 i (k + 1) o' f' ef' (by simpa using ho) (by simpa using he)
        simp only [zipE, List.map_cons, List.zip_cons_cons, apX]
        rw [if_pos (by simp)]
        rw [show k + (i + 1) = k + 1 + i by omega]
        exact this
    · intro k
      simp only [zipE, List.map_cons, List.zip_cons_cons, apX, if_true]
      exact ih.2 (k + 1)
theorem put_eq {o : Oper} {a : Act} {v : Value} {s : Nat} (h : o.dst ≠ some s) : (a.put o.dst v).tmps.getD s undef = a.tmps.getD s undef := by
  cases hd : o.dst with
  | none => rfl
  | some d =>
    rw [hd] at h
    have : d ≠ s := fun e => h (by rw [e])
    simp [Act.put, Array.getD_eq_getD_getElem?, Array.getElem?_setIfInBounds_ne this]
theorem put_same {o : Oper} {a : Act} {v : Value} {s : Nat} (h : o.dst = some s) (hs : s < a.tmps.size) : (a.put o.dst v).tmps.getD s undef = v := by
  rw [h]
  simp [Act.put, Array.getD_eq_getD_getElem?, hs]
theorem put_size {o : Oper} {a : Act} {v : Value} : (a.put o.dst v).tmps.size = a.tmps.size := by
  cases o.dst <;> simp [Act.put]
theorem put_defers {o : Oper} {a : Act} {v : Value} : (a.put o.dst v).defers = a.defers := by
  cases o.dst <;> rfl
/-- An operation is passed over. -/
theorem Rel.skip {E : En} {N : Nat} {cx : Cx} {st : St} {a : Act} {w : World} {o : Oper} (h : Rel E N cx st a w) : Rel E N cx (Ef.ap ⟨.tup [], []⟩ o st) (a.put o.dst undef) w := by
  have hh : (Ef.ap ⟨.tup [], []⟩ o st).h = st.h := rfl
  refine ⟨by rw [put_defers]; exact h.defers, by rw [put_size]; exact h.size, fun s => ?_, h.bl, h.inj, h.own, h.A, h.A0, h.kept, h.sz, h.os, h.tape, h.output, h.hN, h.pin⟩
  rw [hh]
  by_cases hd : o.dst = some s
  · rw [ap_g_in hd]
    by_cases hs : s < a.tmps.size
    · rw [put_same hd hs]; exact ⟨#[], rfl, rfl, fun i t h => by simp at h⟩
    · have : (a.put o.dst undef).tmps.getD s undef = undef := by
        rw [Array.getD_eq_getD_getElem?, Array.getElem?_eq_none (by rw [put_size]; omega)]; rfl
      rw [this]; exact ⟨#[], rfl, rfl, fun i t h => by simp at h⟩
  · rw [ap_g hd, put_eq hd]; exact h.fr s
theorem count_set {l : List Bool} {i : Nat} (h : l[i]? = some false) : (l.set i true).count false + 1 = l.count false := by
  induction l generalizing i with
  | nil => simp at h
  | cons b l ih =>
    cases i with
    | zero => simp only [List.getElem?_cons_zero, Option.some.injEq] at h; subst h; simp
    | succ i =>
      have := ih (i := i) (by simpa using h)
      simp only [List.set_cons_succ, List.count_cons]
      omega
section
variable {E : En} {N : Nat} {P : Program} {l : List Oper} {es : List (Fp × Ef)} {st st' : St}
theorem region_any (hm : P.follows .mixedOrders = true) (hS : schS N l = true) (hD : chkD l es = true) (hq : Seq E N P l.toArray l st es st')
    (hF : ∀ (i : Nat) (f : Fp) (ef : Ef), es[i]? = some (f, ef) → ∀ b ∈ f.al, FreshB b st) {cx : Cx} {a : Act} {w : World} (hr : Rel E N cx st a w) {id : Nat} :
    (Code.region id l.toArray true).wp P (fun e a' w' => e = .normal ∧ ∃ cx', Rel E N cx' st' a' w') a w := by
  have hlen := hq.len
  obtain ⟨hat, hend⟩ := hq.at
  have hS := ltAll_spec hS
  have hD := ltAll_spec hD
  have hpred : ∀ (i : Nat) (o : Oper), l[i]? = some o → ∀ p ∈ preds o, p < i := by
    intro i o ho p hp
    have hi := (List.getElem?_eq_some_iff.1 ho).1
    have h1 := hS i hi
    simp only [Bool.and_eq_true] at h1
    have h2 := List.all_eq_true.1 h1.1.2 p (by rw [List.getD_eq_getElem?_getD, ho]; exact hp)
    exact Nat.le_of_ble_eq_true h2
  have hdst : ∀ (i : Nat) (o : Oper), l[i]? = some o → ∀ d, o.dst = some d → d < N := by
    intro i o ho d hd
    have hi := (List.getElem?_eq_some_iff.1 ho).1
    have h1 := hS i hi
    simp only [Bool.and_eq_true] at h1
    have h2 := h1.1.1
    rw [List.getD_eq_getElem?_getD, ho] at h2
    simp only [Option.getD_some, hd, Option.all_some] at h2
    exact Nat.le_of_ble_eq_true h2
  have hap : ∀ (j i : Nat) (oj oi : Oper), j < i → l[j]? = some oj → l[i]? = some oi → Oper.apart l.toArray oj oi = true ∨ j ∈ (ancGo l []).getD i [] := by
    intro j i oj oi hji hj hi
    have hil := (List.getElem?_eq_some_iff.1 hi).1
    have h1 := hS i hil
    simp only [Bool.and_eq_true] at h1
    have h2 := ltAll_spec h1.2 j hji
    rw [List.getD_eq_getElem?_getD, List.getD_eq_getElem?_getD, hi, hj] at h2
    simp only [Option.getD_some, Bool.or_eq_true, memN_iff] at h2
    exact h2
  have hbl : ∀ (j i : Nat) (xj xi : Fp × Ef), j < i → es[j]? = some xj → es[i]? = some xi →
      (((∀ b ∈ xj.2.wb, b ∉ xi.1.rb ++ xi.2.wb) ∧ (∀ b ∈ xj.1.rb, b ∉ xi.2.wb) ∧ (∀ b ∈ xj.1.al, b ∉ xi.2.mt)) ∨ j ∈ (ancGo l []).getD i []) ∧ ∀ b ∈ xi.1.al, b ∉ xj.2.mt := by
    intro j i xj xi hji hj hi
    have hil := (List.getElem?_eq_some_iff.1 hi).1
    have h2 := ltAll_spec (hD i (by omega)) j hji
    rw [List.getD_eq_getElem?_getD (l := es), List.getD_eq_getElem?_getD (l := es), hi, hj] at h2
    simp only [Option.getD_some, Bool.and_eq_true, Bool.or_eq_true, memN_iff] at h2
    exact ⟨Or.imp (fun h => ⟨disB_spec h.1.1, disB_spec h.1.2, disB_spec h.2⟩) (fun h => h) h2.1, disB_spec h2.2⟩
  have hsz : l.toArray.size = l.length := by simp
  refine wp_region_any hm ?_
  have key : ∀ (fuel : Nat) (listed : Array Bool) (cx : Cx) (a : Act) (w : World), listed.size = l.length → listed.toList.count false = fuel →
      (∀ (i : Nat) (o : Oper), l[i]? = some o → listed.getD i true = true → ∀ p ∈ preds o, listed.getD p true = true) →
      Rel E N cx (apX (fun j => listed.getD j true) 0 (zipE l es) st) a w →
      wpAny P .any l.toArray (fun e a' w' => e = .normal ∧ ∃ cx', Rel E N cx' st' a' w') fuel listed a w := by
    intro fuel
    induction fuel with
    | zero =>
      intro listed cx a w hls hc hcl hrel
      have hall : ∀ j, listed.getD j true = true := by
        intro j
        rw [Array.getD_eq_getD_getElem?]
        cases hj : listed[j]? with
        | none => rfl
        | some b =>
          cases b with
          | true => rfl
          | false =>
            exfalso
            have hm : false ∈ listed.toList := by
              rw [Array.mem_toList_iff]
              exact Array.mem_of_getElem? hj
            have := List.count_pos_iff.2 hm
            omega
      have he : (fun j => listed.getD j true) = fun _ => true := funext hall
      rw [he, hend 0] at hrel
      refine ⟨?_, rfl, cx, hrel⟩
      unfold Region.ready
      rw [List.filter_eq_nil_iff]
      intro i _ h
      rw [hall i] at h
      simp at h
    | succ fuel ih =>
      intro listed cx a w hls hc hcl hrel
      refine ⟨fun hre => ?_, fun i hi => ?_⟩
      · exfalso
        -- some operation is not listed; the first such one is ready
        have hex : ∃ i, i < l.length ∧ listed.getD i true = false := by
          have hm : false ∈ listed.toList := by
            have : 0 < listed.toList.count false := by omega
            exact List.count_pos_iff.1 this
          obtain ⟨i, hi, he⟩ := List.getElem_of_mem hm
          refine ⟨i, by rw [← hls]; simpa using hi, ?_⟩
          rw [Array.getD_eq_getD_getElem?]
          have hi' : i < listed.size := by simpa using hi
          rw [Array.getElem?_eq_getElem hi']
          simpa using he
        have hmin : ∀ n i, i < n → i < l.length → listed.getD i true = false → False := by
          intro n
          induction n with
          | zero => intro i h; omega
          | succ n ihn =>
            intro i hin hil hif
            have hio : l[i]? = some l[i] := List.getElem?_eq_getElem hil
            have hp : ∀ p ∈ preds l[i], listed.getD p true = true := by
              intro p hp
              cases hv : listed.getD p true with
              | true => rfl
              | false =>
                have := hpred i _ hio p hp
                exact (ihn p (by omega) (by omega) hv).elim
            have hmem : i ∈ Region.ready .any l.toArray listed := by
              unfold Region.ready
              simp only [List.mem_filter, List.mem_range, hsz]
              refine ⟨hil, ?_⟩
              rw [hif]
              have hget : l.toArray[i]? = some l[i] := by simp [hio]
              rw [hget]
              simp only [Bool.not_false, Option.map_some, Option.getD_some, Bool.true_and, Array.all_eq_true_iff_forall_mem]
              intro e he
              cases hb : Region.binds .any e with
              | false => rfl
              | true =>
                have : listed.getD e.on true = true := hp e.on (by
                  unfold preds
                  rw [List.mem_map]
                  exact ⟨e, List.mem_filter.2 ⟨Array.mem_toList_iff.2 he, hb⟩, rfl⟩)
                have hlt : e.on < listed.size := by
                  have := hpred i _ hio e.on (by
                    unfold preds
                    rw [List.mem_map]
                    exact ⟨e, List.mem_filter.2 ⟨Array.mem_toList_iff.2 he, hb⟩, rfl⟩)
                  omega
                rw [Array.getD_eq_getD_getElem?, Array.getElem?_eq_getElem hlt] at this ⊢
                simpa using this
            rw [hre] at hmem
            cases hmem
        obtain ⟨i, h1, h2⟩ := hex
        exact hmin (i + 1) i (by omega) h1 h2
      · unfold Region.ready at hi
        simp only [List.mem_filter, List.mem_range, hsz] at hi
        obtain ⟨hil, hi2⟩ := hi
        have hio : l[i]? = some l[i] := List.getElem?_eq_getElem hil
        generalize l[i] = o at hio
        have hget : l.toArray[i]? = some o := by simp [hio]
        rw [hget] at hi2
        simp only [Option.map_some, Option.getD_some, Bool.and_eq_true, Bool.not_eq_true', Array.all_eq_true_iff_forall_mem] at hi2
        obtain ⟨hif, hiall⟩ := hi2
        have hpl : ∀ p ∈ preds o, listed.getD p true = true := by
          intro p hp
          unfold preds at hp
          rw [List.mem_map] at hp
          obtain ⟨e, he, rfl⟩ := hp
          obtain ⟨he1, he2⟩ := List.mem_filter.1 he
          have := hiall e (Array.mem_toList_iff.1 he1)
          rw [he2] at this
          simp only [Bool.not_true, Bool.false_or] at this
          rw [Array.getD_eq_getD_getElem?] at this ⊢
          cases hx : listed[e.on]? with
          | none => rfl
          | some b => rw [hx] at this; simpa using this
        have hanc := anc_closed (l := l) (X := fun j => listed.getD j true) hcl i o hio hpl
        obtain ⟨fe, hfe⟩ : ∃ fe, es[i]? = some fe := ⟨_, List.getElem?_eq_getElem (by omega)⟩
        obtain ⟨f, ef⟩ := fe
        have hOp := hat i 0 o f ef hio hfe
        rw [Nat.zero_add] at hOp
        -- what is unordered to i does not meet it
        have hlater : ∀ (j : Nat) (oj : Oper), i < j → l[j]? = some oj → listed.getD j true = true → i ∉ (ancGo l []).getD j [] := by
          intro j oj hij hj hlj hc
          have := anc_closed (l := l) (X := fun j => listed.getD j true) hcl j oj hj (hcl j oj hj hlj) i hc
          rw [hif] at this
          cases this
        have hagS : ∀ s ∈ o.looksAt l.toArray, (apX (fun j => listed.getD j true) 0 (zipE l es) st).g s = (apX (fun j => decide (j < i)) 0 (zipE l es) st).g s := by
          intro s hs
          refine apX_g _ _ _ _ (fun j x hx hd => ?_) rfl
          obtain ⟨xo, xe⟩ := x
          obtain ⟨hj, g, hje⟩ := zipE_inv hx
          rw [Nat.zero_add]
          rcases Nat.lt_trichotomy j i with h | h | h
          · rcases hap j i xo o h hj hio with h2 | h2
            · exact absurd hs ((Oper.apart_spec h2).1 s hd)
            · rw [hanc j h2]; simp [h]
          · subst h; rw [hif]; simp
          · have : listed.getD j true = false := by
              cases hv : listed.getD j true with
              | false => rfl
              | true =>
                exfalso
                rcases hap i j o xo h hio hj with h2 | h2
                · exact (Oper.apart_spec h2).2.2 s hd hs
                · exact hlater j xo h hj hv h2
            rw [this]; simp; omega
        have hagB : ∀ b ∈ f.rb, (apX (fun j => listed.getD j true) 0 (zipE l es) st).h b = (apX (fun j => decide (j < i)) 0 (zipE l es) st).h b := by
          intro b hb
          refine apX_h _ _ _ _ (fun j x hx hd => ?_) rfl
          obtain ⟨xo, xe⟩ := x
          obtain ⟨hj, g, hje⟩ := zipE_inv hx
          rw [Nat.zero_add]
          rcases Nat.lt_trichotomy j i with h | h | h
          · rcases (hbl j i _ _ h hje hfe).1 with h2 | h2
            · exact absurd (List.mem_append_left _ hb) (h2.1 b hd)
            · rw [hanc j h2]; simp [h]
          · subst h; rw [hif]; simp
          · have : listed.getD j true = false := by
              cases hv : listed.getD j true with
              | false => rfl
              | true =>
                exfalso
                rcases (hbl i j _ _ h hfe hje).1 with h2 | h2
                · exact h2.2.1 b hb hd
                · exact hlater j xo h hj hv h2
            rw [this]; simp; omega
        have hset : ∀ j, (listed.setIfInBounds i true).getD j true = (decide (j = i) || listed.getD j true) := by
          intro j
          rw [Array.getD_eq_getD_getElem?, Array.getD_eq_getD_getElem?]
          by_cases e : j = i
          · subst e
            rw [Array.getElem?_setIfInBounds_self]
            simp
            split <;> rfl
          · rw [Array.getElem?_setIfInBounds_ne (fun h => e h.symm)]
            simp [e]
        -- the state with i
        have hAl : Alike (ef.ap o (apX (fun j => listed.getD j true) 0 (zipE l es) st)) (apX (fun j => (listed.setIfInBounds i true).getD j true) 0 (zipE l es) st) := by
          constructor
          · intro s
            by_cases hd : o.dst = some s
            · rw [ap_g_in hd]
              refine apX_g_last hd _ 0 i _ (zipE_at hio hfe) (by rw [hset]; simp) (fun j x hij hx hxd => ?_)
              obtain ⟨xo, xe⟩ := x
              obtain ⟨hj, g, hje⟩ := zipE_inv hx
              rw [hset, Nat.zero_add]
              have : j ≠ i := by omega
              cases hv : listed.getD j true with
              | false => simp [this]
              | true =>
                exfalso
                rcases hap i j o xo hij hio hj with h2 | h2
                · exact (Oper.apart_spec h2).2.1 s hd hxd
                · exact hlater j xo hij hj hv h2
            · rw [ap_g hd]
              refine apX_g _ _ _ _ (fun j x hx hxd => ?_) rfl
              obtain ⟨xo, xe⟩ := x
              obtain ⟨hj, g, hje⟩ := zipE_inv hx
              rw [hset, Nat.zero_add]
              have : j ≠ i := by
                rintro rfl
                rw [hio] at hj
                cases hj
                exact hd hxd
              simp [this]
          · intro b
            by_cases hd : b ∈ ef.bl.map (·.1)
            · refine apX_h_last (o := o) hd _ 0 i _ (zipE_at hio hfe) (by rw [hset]; simp) (fun j x hij hx hxd => ?_)
              obtain ⟨xo, xe⟩ := x
              obtain ⟨hj, g, hje⟩ := zipE_inv hx
              rw [hset, Nat.zero_add]
              have : j ≠ i := by omega
              cases hv : listed.getD j true with
              | false => simp [this]
              | true =>
                exfalso
                rcases (hbl i j _ _ hij hfe hje).1 with h2 | h2
                · exact h2.1 b hd (List.mem_append_right _ hxd)
                · exact hlater j xo hij hj hv h2
            · rw [ap_h hd]
              refine apX_h _ _ _ _ (fun j x hx hxd => ?_) rfl
              obtain ⟨xo, xe⟩ := x
              obtain ⟨hj, g, hje⟩ := zipE_inv hx
              rw [hset, Nat.zero_add]
              have : j ≠ i := by
                rintro rfl
                rw [hfe] at hje
                cases hje
                exact hd hxd
              simp [this]
        have hcl' : ∀ (i' : Nat) (o' : Oper), l[i']? = some o' → (listed.setIfInBounds i true).getD i' true = true → ∀ p ∈ preds o', (listed.setIfInBounds i true).getD p true = true := by
          intro i' o' ho' hl' p hp
          rw [hset] at hl' ⊢
          by_cases e : i' = i
          · subst e
            rw [hio] at ho'
            cases ho'
            rw [hpl p hp]; simp
          · simp only [e, decide_false, Bool.false_or] at hl'
            rw [hcl i' o' ho' hl' p hp]; simp
        have hcnt : (listed.setIfInBounds i true).toList.count false = fuel := by
          have hx : listed.toList[i]? = some false := by
            have hlt : i < listed.size := by omega
            rw [Array.getD_eq_getD_getElem?, Array.getElem?_eq_getElem hlt] at hif
            rw [Array.getElem?_toList, Array.getElem?_eq_getElem hlt]
            simpa using hif
          have := count_set hx
          rw [Array.toList_setIfInBounds]
          omega
        have hfin : ∀ (cx' : Cx) (a' : Act) (w' : World), Rel E N cx' (ef.ap o (apX (fun j => listed.getD j true) 0 (zipE l es) st)) a' w' →
            wpAny P .any l.toArray (fun e a' w' => e = .normal ∧ ∃ cx', Rel E N cx' st' a' w') fuel (listed.setIfInBounds i true) a' w' :=
          fun cx' a' w' h => ih _ cx' a' w' (by simp [hls]) hcnt hcl' (h.alike hAl)
        unfold wpOp
        rw [hget]
        simp only
        rcases hOp with ⟨h1, h2⟩ | ⟨h1, h2, h3⟩
        · rw [← wn_agree hagS] at h1
          rw [wanted_of hrel h1, if_pos rfl]
          refine .inl ?_
          have hfr : ∀ b ∈ f.al, FreshB b (apX (fun j => listed.getD j true) 0 (zipE l es) st) := by
            intro b hb
            refine apX_fresh _ _ _ (hF i f ef hfe b hb) (fun j x hx hX => ?_)
            rw [Nat.zero_add] at hX
            obtain ⟨xo, xe⟩ := x
            obtain ⟨hj, g, hje⟩ := zipE_inv hx
            rcases Nat.lt_trichotomy j i with h | h | h
            · exact (hbl j i _ _ h hje hfe).2 b hb
            · subst h; rw [hif] at hX; cases hX
            · rcases (hbl i j _ _ h hfe hje).1 with h3 | h3
              · exact h3.2.2 b hb
              · exact absurd h3 (hlater j xo h hj hX)
          refine Oper.wp_mono (fun a' w' ⟨cx', h⟩ => hfin cx' a' w' h) (h2 _ ⟨hagS, hagB⟩ hfr (hdst i o hio) cx a w _ hrel)
        · rw [← wn_agree hagS] at h1
          rw [wanted_of hrel h1, if_neg (by simp)]
          subst h3
          exact hfin cx _ _ hrel.skip
  have h0 := key l.length (Array.replicate l.length false) cx a { w with drawn := w.drawn + 1 } (by simp) (by simp) (by
    intro i o ho hl
    have hi := (List.getElem?_eq_some_iff.1 ho).1
    rw [Array.getD_eq_getD_getElem?, Array.getElem?_replicate, if_pos hi] at hl
    simp at hl) (by
    have : Alike st (apX (fun j => (Array.replicate l.length false).getD j true) 0 (zipE l es) st) := by
      have e : apX (fun _ => false) 0 (zipE l es) st = st := apX_none _ _ _
      have hX : ∀ (j : Nat) (x : Oper × Ef), (zipE l es)[j]? = some x → (Array.replicate l.length false).getD (0 + j) true = false := by
        intro j x hx
        obtain ⟨xo, xe⟩ := x
        obtain ⟨hj, _⟩ := zipE_inv hx
        have hi := (List.getElem?_eq_some_iff.1 hj).1
        rw [Nat.zero_add, Array.getD_eq_getD_getElem?, Array.getElem?_replicate, if_pos hi]; rfl
      constructor
      · intro s
        conv => rhs; rw [← e]
        exact apX_g _ _ _ _ (fun j x hx _ => (hX j x hx).symm) rfl
      · intro s
        conv => rhs; rw [← e]
        exact apX_h _ _ _ _ (fun j x hx _ => (hX j x hx).symm) rfl
    exact hr.drew.alike this)
  rw [hsz]
  exact h0
theorem apX_step {o : Oper} {f : Fp} {ef : Ef} {i : Nat} (hio : l[i]? = some o) (hfe : es[i]? = some (f, ef)) : Alike (ef.ap o (apX (fun j => decide (j < i)) 0 (zipE l es) st)) (apX (fun j => decide (j < i + 1)) 0 (zipE l es) st) := by
  constructor
  · intro s
    by_cases hd : o.dst = some s
    · rw [ap_g_in hd]
      exact apX_g_last hd _ 0 i _ (zipE_at hio hfe) (by simp) (fun j x hij hx hxd => by simp; omega)
    · rw [ap_g hd]
      refine apX_g _ _ _ _ (fun j x hx hxd => ?_) rfl
      obtain ⟨xo, xe⟩ := x
      obtain ⟨hj, g, hje⟩ := zipE_inv hx
      have : j ≠ i := by
        rintro rfl
        rw [hio] at hj
        cases hj
        exact hd hxd
      simp; omega
  · intro b
    by_cases hd : b ∈ ef.bl.map (·.1)
    · exact apX_h_last (o := o) hd _ 0 i _ (zipE_at hio hfe) (by simp) (fun j x hij hx hxd => by simp; omega)
    · rw [ap_h hd]
      refine apX_h _ _ _ _ (fun j x hx hxd => ?_) rfl
      obtain ⟨xo, xe⟩ := x
      obtain ⟨hj, g, hje⟩ := zipE_inv hx
      have : j ≠ i := by
        rintro rfl
        rw [hfe] at hje
        cases hje
        exact hd hxd
      simp; omega
theorem region_text (hN : chkN N l = true) (hD : chkT es = true) (hq : Seq E N P l.toArray l st es st')
    (hF : ∀ (i : Nat) (f : Fp) (ef : Ef), es[i]? = some (f, ef) → ∀ b ∈ f.al, FreshB b st) {cx : Cx} {a : Act} {w : World} (hr : Rel E N cx st a w) {id : Nat} :
    (Code.region id l.toArray false).wp P (fun e a' w' => e = .normal ∧ ∃ cx', Rel E N cx' st' a' w') a w := by
  have hlen := hq.len
  obtain ⟨hat, hend⟩ := hq.at
  have hD := ltAll_spec hD
  refine wp_region ?_
  have key : ∀ (k i : Nat) (cx : Cx) (a : Act) (w : World), i + k = l.length → Rel E N cx (apX (fun j => decide (j < i)) 0 (zipE l es) st) a w →
      wpOps P l.toArray (fun e a' w' => e = .normal ∧ ∃ cx', Rel E N cx' st' a' w') (List.range' i k) a w := by
    intro k
    induction k with
    | zero =>
      intro i cx a w hi hrel
      refine ⟨rfl, cx, hrel.alike ?_⟩
      rw [← hend 0]
      have hX : ∀ (j : Nat) (x : Oper × Ef), (zipE l es)[j]? = some x → true = decide (0 + j < i) := by
        intro j x hx
        obtain ⟨xo, xe⟩ := x
        obtain ⟨hj, _⟩ := zipE_inv hx
        have := (List.getElem?_eq_some_iff.1 hj).1
        simp; omega
      exact ⟨fun s => apX_g _ _ _ _ (fun j x hx _ => (hX j x hx).symm) rfl, fun s => apX_h _ _ _ _ (fun j x hx _ => (hX j x hx).symm) rfl⟩
    | succ k ih =>
      intro i cx a w hi hrel
      rw [List.range'_succ, wpOps_cons]
      have hil : i < l.length := by omega
      have hio : l[i]? = some l[i] := List.getElem?_eq_getElem hil
      generalize l[i] = o at hio
      have hget : l.toArray[i]? = some o := by simp [hio]
      obtain ⟨fe, hfe⟩ : ∃ fe, es[i]? = some fe := ⟨_, List.getElem?_eq_getElem (by omega)⟩
      obtain ⟨f, ef⟩ := fe
      have hOp := hat i 0 o f ef hio hfe
      rw [Nat.zero_add] at hOp
      have hdst : ∀ d, o.dst = some d → d < N := by
        intro d hd
        have h1 := List.all_eq_true.1 hN o (List.mem_of_getElem? hio)
        rw [hd] at h1
        simp only [Option.all_some] at h1
        exact Nat.le_of_ble_eq_true h1
      have hfin : ∀ (cx' : Cx) (a' : Act) (w' : World), Rel E N cx' (ef.ap o (apX (fun j => decide (j < i)) 0 (zipE l es) st)) a' w' →
          wpOps P l.toArray (fun e a' w' => e = .normal ∧ ∃ cx', Rel E N cx' st' a' w') (List.range' (i + 1) k) a' w' :=
        fun cx' a' w' h => ih (i + 1) cx' a' w' (by omega) (h.alike (apX_step hio hfe))
      unfold wpOp
      rw [hget]
      simp only
      rcases hOp with ⟨h1, h2⟩ | ⟨h1, h2, h3⟩
      · rw [wanted_of hrel h1, if_pos rfl]
        refine .inl ?_
        have hfr : ∀ b ∈ f.al, FreshB b (apX (fun j => decide (j < i)) 0 (zipE l es) st) := by
          intro b hb
          refine apX_fresh _ _ _ (hF i f ef hfe b hb) (fun j x hx hX => ?_)
          rw [Nat.zero_add] at hX
          have hji : j < i := of_decide_eq_true hX
          obtain ⟨xo, xe⟩ := x
          obtain ⟨hj, g, hje⟩ := zipE_inv hx
          have h3 := ltAll_spec (hD i (by omega)) j hji
          rw [List.getD_eq_getElem?_getD, List.getD_eq_getElem?_getD, hfe, hje] at h3
          exact disB_spec h3 b hb
        refine Oper.wp_mono (fun a' w' ⟨cx', h⟩ => hfin cx' a' w' h) (h2 _ ⟨fun _ _ => rfl, fun _ _ => rfl⟩ hfr hdst cx a w _ hrel)
      · rw [wanted_of hrel h1, if_neg (by simp)]
        subst h3
        exact hfin cx _ _ hrel.skip
  have h0 := key l.length 0 cx a w (by omega) (hr.alike (by
    have e : apX (fun _ => false) 0 (zipE l es) st = st := apX_none _ _ _
    constructor
    · intro s
      conv => rhs; rw [← e]
      exact apX_g _ _ _ _ (fun j x hx _ => by simp) rfl
    · intro s
      conv => rhs; rw [← e]
      exact apX_h _ _ _ _ (fun j x hx _ => by simp) rfl))
  rw [List.range_eq_range']
  simpa using h0
end
end Go.Proofs.Ythlaenafkihjiaa
/- How a step of the program is followed by an abstract world. No condition. -/
namespace Go.Proofs.Ythlaenafkihjiaa
open Go.RowKit
set_option linter.unusedVariables false
set_option linter.unusedSimpArgs false
/-- The block b is seen as before, as far as addresses go. -/
def Cmp (cx : Cx) (w : World) (h : Bid → Option Bk) (cx' : Cx) (w' : World) (h' : Bid → Option Bk) (b : Bid) : Prop :=
  ∀ bk', h' b = some bk' → ∃ bk, h b = some bk ∧ bk.e = bk'.e ∧ bk.len ≤ bk'.len ∧ cx'.ι b = cx.ι b ∧
    ∀ g o c el fz, cx.ι b = some (g, o) → w.heap[g]? = some (.cells c el fz) → ∃ c' el' fz', w'.heap[g]? = some (.cells c' el' fz') ∧ (0 < bk'.e → c'.size = c.size)
section
variable {cx cx' : Cx} {w w' : World} {h h' : Bid → Option Bk}
theorem RC.tr {c : CV} {v : Value} (hA : ∀ g, cx.A g → cx'.A g) (hk : Keeps cx.A w w') (hb : ∀ b ∈ c.ment, Cmp cx w h cx' w' h' b) (hr : RC cx w h c v) : RC cx' w' h' c v := by
  cases c with
  | any => trivial
  | p x => exact hr.keeps hA hk
  | ptr b i k =>
    intro bk' hbk
    obtain ⟨bk, h1, h2, h3, h4, h5⟩ := hb b (by simp [CV.ment]) bk' hbk
    obtain ⟨g, o, h6, h7⟩ := hr bk h1
    exact ⟨g, o, by rw [h4, h6], by rw [h7, h2]⟩
  | sl b off n =>
    intro bk' hbk
    obtain ⟨bk, h1, h2, h3, h4, h5⟩ := hb b (by simp [CV.ment]) bk' hbk
    obtain ⟨a, cap, h6, h7, h8, h9, h10⟩ := hr bk h1
    refine ⟨a, cap, h6, h7, h8, by omega, ?_⟩
    rcases h10 with h10 | ⟨g, c, el, fz, h11, h12, h13, h14⟩
    · exact .inl h10
    · obtain ⟨c', el', fz', h15, h16⟩ := h5 g 0 c el fz h11 h13
      refine .inr ⟨g, c', el', fz', by rw [h4, h11], by rw [h12, h2], h15, ?_⟩
      intro he
      rw [h16 he, h14 (by rw [h2]; exact he), h2]
  | ep row k =>
    obtain ⟨g, off, h1, h2, h3, h4⟩ := hr
    refine ⟨g, off, h1, hA g h2, Nat.lt_of_lt_of_le h3 hk.sz, fun j p hp => ?_⟩
    obtain ⟨c, hc, hp⟩ := h4 j p hp
    exact ⟨c, by rw [World.cell?_of_block (w := w) (hk.bl g h2 h3)]; exact hc, hp.keeps hA hk⟩
theorem mentL_mem {cs : List CV} {i : Nat} {c : CV} (h : cs[i]? = some c) {b : Bid} (hb : b ∈ c.ment) : b ∈ mentL cs := by
  unfold mentL
  rw [List.mem_flatMap]
  exact ⟨c, List.mem_of_getElem? h, hb⟩
theorem RL.tr {cs : List CV} {vs : Array Value} (hA : ∀ g, cx.A g → cx'.A g) (hk : Keeps cx.A w w') (hb : ∀ b ∈ mentL cs, Cmp cx w h cx' w' h' b) (hr : RL cx w h cs vs) : RL cx' w' h' cs vs :=
  ⟨hr.1, fun i c hc => let ⟨u, hu, h1, hx⟩ := hr.2 i c hc; ⟨u, hu, h1, hx.tr hA hk fun b hbm => hb b (mentL_mem hc hbm)⟩⟩
theorem RT1.tr {t : TV} {v : Value} (hA : ∀ g, cx.A g → cx'.A g) (hk : Keeps cx.A w w') (hb : ∀ b ∈ t.ment1, Cmp cx w h cx' w' h' b) (hr : RT1 cx w h t v) : RT1 cx' w' h' t v := by
  cases t with
  | c x => exact ⟨hr.1, RC.tr hA hk hb hr.2⟩
  | agg cs => obtain ⟨vs, h1, h2⟩ := hr; exact ⟨vs, h1, h2.tr hA hk hb⟩
  | tup ts => exact hr
theorem RT.tr {t : TV} {v : Value} (hA : ∀ g, cx.A g → cx'.A g) (hk : Keeps cx.A w w') (hb : ∀ b ∈ t.ment, Cmp cx w h cx' w' h' b) (hr : RT cx w h t v) : RT cx' w' h' t v := by
  cases t with
  | c x => exact ⟨hr.1, RC.tr hA hk hb hr.2⟩
  | agg cs => obtain ⟨vs, h1, h2⟩ := hr; exact ⟨vs, h1, h2.tr hA hk hb⟩
  | tup ts =>
    obtain ⟨vs, h1, h2, h3⟩ := hr
    refine ⟨vs, h1, h2, fun i t ht => ?_⟩
    obtain ⟨u, hu, hx⟩ := h3 i t ht
    refine ⟨u, hu, hx.tr hA hk fun b hbm => hb b ?_⟩
    simp only [TV.ment, List.mem_flatMap]
    exact ⟨t, List.mem_of_getElem? ht, hbm⟩
/-- A block that is not written. -/
theorem RB.tr {b : Bid} {bk : Bk} (hA : ∀ g, cx.A g → cx'.A g) (hk : Keeps cx.A w w') (hb : ∀ b ∈ bk.ment, Cmp cx w h cx' w' h' b) (hi : cx'.ι b = cx.ι b)
    (hg : ∀ g o, cx.ι b = some (g, o) → w'.heap[g]? = w.heap[g]? ∧ (¬ cx.A g → ¬ cx'.A g)) (hr : RB cx w h b bk) : RB cx' w' h' b bk := by
  cases bk with
  | row e rows mu =>
    obtain ⟨h0, h1, h2⟩ := hr
    refine ⟨h0, h1, ?_⟩
    rw [hi]
    revert h2 hg
    cases cx.ι b with
    | none => exact fun _ h => h
    | some x =>
      obtain ⟨g, o⟩ := x
      intro hg
      obtain ⟨hg1, hg2⟩ := hg g o rfl
      rintro ⟨h3, c, el, fz, capR, h4, h5, h6, h7, h8, h9, h10⟩
      refine ⟨h3, c, el, fz, capR, by rw [hg1]; exact h4, fun hm => ⟨(h5 hm).1, hg2 (h5 hm).2⟩, fun hm => hA g (h6 hm), h7, h8, h9, fun i r k p hir hk' => ?_⟩
      obtain ⟨cv, hc, hp⟩ := h10 i r k p hir hk'
      exact ⟨cv, hc, hp.keeps hA hk⟩
  | box cs =>
    obtain ⟨g, o, c, el, h1, h2, h3, h4, h5⟩ := hr
    obtain ⟨hg1, hg2⟩ := hg g o h1
    exact ⟨g, o, c, el, by rw [hi, h1], by rw [hg1]; exact h2, hg2 h3, h4, fun k x hx => let ⟨cv, hc, h1, hp⟩ := h5 k x hx; ⟨cv, hc, h1, hp.tr hA hk fun b hbm => hb b (mentL_mem hx hbm)⟩⟩
end
section
variable {E : En} {N : Nat} {cx cx' : Cx} {st : St} {a : Act} {w w' : World} {o : Oper} {ef : Ef} {v : Value}
theorem ap_ment {b : Bid} (hf : FreshB b st) : ∀ s, o.dst ≠ some s → b ∉ ((ef.ap o st).g s).ment := fun s hs => by rw [ap_g hs]; exact hf.2.1 s
/-- A step: what it must show. -/
theorem Rel.step (hr : Rel E N cx st a w) (hd : ∀ d, o.dst = some d → d < N) (al : List Bid) (hal : ∀ b ∈ al, FreshB b st)
    (hA : ∀ g, cx.A g → cx'.A g) (hA' : ∀ g, cx'.A g → cx.A g ∨ (g < w'.heap.size ∧ (E.w0.heap.size ≤ g ∨ E.M g)))
    (hk : Keeps cx.A w w') (hkept : ∀ g, g < E.w0.heap.size → ¬ E.M g → w'.heap[g]? = w.heap[g]?) (hos : w'.os = w.os) (htape : w'.tape = w.tape) (hout : w'.output = w.output)
    (hcmp : ∀ b, b ∉ al → Cmp cx w st.h cx' w' (ef.ap o st).h b)
    (hbl : ∀ b bk', (ef.ap o st).h b = some bk' →
      (b ∉ al ∧ st.h b = some bk' ∧ cx'.ι b = cx.ι b ∧ ∀ g o, cx.ι b = some (g, o) → w'.heap[g]? = w.heap[g]? ∧ (¬ cx.A g → ¬ cx'.A g)) ∨ RB cx' w' (ef.ap o st).h b bk')
    (hinj : ∀ b b' g o g' o', (ef.ap ‹Oper› st).h b ≠ none → (ef.ap ‹Oper› st).h b' ≠ none → cx'.ι b = some (g, o) → cx'.ι b' = some (g', o') → b ≠ b' → g ≠ g')
    (hown : ∀ b g o, (ef.ap ‹Oper› st).h b ≠ none → cx'.ι b = some (g, o) → g < w'.heap.size ∧ (E.w0.heap.size ≤ g ∨ E.M g))
    (ht : RT cx' w' (ef.ap o st).h ef.t v) (hpin : cx'.ι pinB = cx.ι pinB) : Rel E N cx' (ef.ap o st) (a.put o.dst v) w' := by
  have hne : ∀ {l : List Bid}, (∀ b ∈ al, b ∉ l) → ∀ b ∈ l, Cmp cx w st.h cx' w' (ef.ap o st).h b := fun hl b hb => hcmp b fun hba => hl b hba hb
  refine ⟨by rw [put_defers]; exact hr.defers, by rw [put_size]; exact hr.size, fun s => ?_, fun b bk hb => ?_, hinj, hown, fun g hg => ?_, fun g hg => hA g (hr.A0 g hg),
    fun g h1 h2 => (hkept g h1 h2).trans (hr.kept g h1 h2), Nat.le_trans hr.sz hk.sz, hos.trans hr.os, htape.trans hr.tape, hout.trans hr.output, hr.hN, hpin.trans hr.pin⟩
  · by_cases hs : o.dst = some s
    · rw [ap_g_in hs, put_same hs (by rw [hr.size]; exact hd s hs)]; exact ht
    · rw [ap_g hs, put_eq hs]
      exact (hr.fr s).tr hA hk (hne fun b hb => (hal b hb).2.1 s)
  · rcases hbl b bk hb with ⟨h1, h2, h3, h4⟩ | h1
    · exact (hr.bl b bk h2).tr hA hk (hne fun b' hb' => (hal b' hb').2.2 b bk h2) h3 h4
    · exact h1
  · rcases hA' g hg with h1 | h1
    · obtain ⟨h2, h3⟩ := hr.A g h1
      exact ⟨Nat.lt_of_lt_of_le h2 hk.sz, h3⟩
    · exact ⟨h1.1, .inr h1.2⟩
theorem Keeps.refl (A : Nat → Prop) (w : World) : Keeps A w w := ⟨Nat.le_refl _, fun _ _ _ => rfl⟩
/-- A step that only computes. -/
theorem Rel.put (hr : Rel E N cx st a w) (hd : ∀ d, o.dst = some d → d < N) {t : TV} (ht : RT cx w st.h t v) : Rel E N cx (Ef.ap ⟨t, []⟩ o st) (a.put o.dst v) w := by
  have hh : (Ef.ap ⟨t, []⟩ o st).h = st.h := rfl
  refine hr.step (ef := ⟨t, []⟩) hd [] (fun b hb => by cases hb) (fun _ h => h) (fun _ h => .inl h) (Keeps.refl _ _) (fun _ _ _ => rfl) rfl rfl rfl ?_ ?_ ?_ ?_ ht rfl
  · intro b _ bk' hb
    rw [hh] at hb
    exact ⟨bk', hb, rfl, Nat.le_refl _, rfl, fun g o c el fz _ h => ⟨c, el, fz, h, fun _ => rfl⟩⟩
  · intro b bk' hb
    exact .inl ⟨by simp, hb, rfl, fun g o _ => ⟨rfl, fun h => h⟩⟩
  · exact hr.inj
  · exact hr.own
variable {P : Program} {ops : Array Oper} {f : Fp}
theorem upon_ok {K : Act → World → Prop} {Q : Exit → Act → World → Prop} (hrun : (execOp a.eval o).run P w = .ok (.value v) w') (h : K (a.put o.dst v) w') : o.wp P a w K Q := by
  unfold Oper.wp
  rw [hrun]; exact h
theorem upon_skip {K : Act → World → Prop} {Q : Exit → Act → World → Prop} (hrun : (execOp a.eval o).run P w = .ok .skip w') (h : K (a.put o.dst undef) w') : o.wp P a w K Q := by
  unfold Oper.wp
  rw [hrun]; exact h
/-- An operation that only computes. -/
theorem opL_pure {t : TV} {rb : List Bid}
    (h : ∀ st' cx a w, Agree ops o ⟨rb, []⟩ st st' → Rel E N cx st' a w → ∃ v, (execOp a.eval o).run P w = .ok (.value v) w ∧ RT cx w st'.h t v) :
    OpL E N P ops o st ⟨rb, []⟩ ⟨t, []⟩ := by
  intro st' ha _ hd cx a w Q hr
  obtain ⟨v, h1, h2⟩ := h st' cx a w ha hr
  exact upon_ok h1 ⟨cx, hr.put hd h2⟩
/-- What an operand is. -/
def St.ev (st : St) : Operand → TV
  | .tmp t => st.g t
  | .const (.agg cs) => .agg (cs.toList.map fun v => .p (.v v))
  | .const v => .c (.p (.v v))
  | _ => .c .any
def okC : Operand → Bool
  | .const (.agg cs) => cs.toList.all atomB
  | .const v => atomB v
  | _ => true
theorem looks_of {x : Operand} (hx : x ∈ o.op.operands.toList) : ∀ t, x = .tmp t → t ∈ o.looksAt ops := by
  intro t ht
  subst ht
  unfold Oper.looksAt
  rw [List.mem_append]
  left
  rw [List.mem_filterMap]
  exact ⟨_, hx, rfl⟩
theorem ev_agree {st st' : St} (ha : Agree ops o f st st') {x : Operand} (hx : x ∈ o.op.operands.toList) : st'.ev x = st.ev x := by
  cases x with
  | tmp t => exact ha.1 t (looks_of hx t rfl)
  | const v => cases v <;> rfl
  | global g => rfl
  | func g => rfl
theorem Rel.ev (hr : Rel E N cx st a w) {x : Operand} (hc : okC x = true) : RT cx w st.h (st.ev x) (a.eval x) := by
  cases x with
  | tmp t => exact hr.fr t
  | const v =>
    cases v with
    | agg cs =>
      refine ⟨cs, rfl, by simp, fun i c hi => ?_⟩
      rw [List.getElem?_map] at hi
      cases hci : cs.toList[i]? with
      | none => rw [hci] at hi; cases hi
      | some u =>
        rw [hci] at hi
        simp only [Option.map_some, Option.some.injEq] at hi
        subst hi
        have hat := List.all_eq_true.1 hc u (List.mem_of_getElem? hci)
        refine ⟨u, by simpa using hci, atomB_one hat, .v u ?_⟩
        exact List.all_eq_true.1 hc u (List.mem_of_getElem? hci)
    | _ => exact ⟨.inr (atomB_one hc), RP.v _ hc⟩
  | global g => exact ⟨.inl rfl, trivial⟩
  | func g => exact ⟨.inl rfl, trivial⟩
end
end Go.Proofs.Ythlaenafkihjiaa
/- Operations over abstract worlds, first part: what only computes or reads. Conditions: those of the operations. -/
namespace Go.Proofs.Ythlaenafkihjiaa
open Go.RowKit
set_option linter.unusedVariables false
set_option linter.unusedSimpArgs false
inductive KD where
  | int (k : IntKind) | bool | string | slice (e : Nat) | array (n e : Nat) | struct (fs : List (Nat × Nat)) | ptr (e : Nat) | other
def KD.agg : KD → Bool
  | .array _ _ | .struct _ => true
  | _ => false
def kdOf : TypeDesc → KD
  | .int k => .int k
  | .bool => .bool
  | .string => .string
  | .slice e => .slice e
  | .array n e => .array n e
  | .struct fs => .struct (fs.toList.map fun f => (f.offset, f.type))
  | .pointer e => .ptr e
  | _ => .other
structure TE where
  kd : KD
  size : Nat
  bytes : Nat
  zero : Value
def teOf (P : Program) (t : Nat) : Option TE :=
  match P.underlying t, P.info? t with
  | some d, some i => i.zero.map fun z => ⟨kdOf d, i.size, i.bytes, z⟩
  | _, _ => none
/-- A table of types of a program. -/
structure Tb (P : Program) where
  ty : List (Nat × TE)
  ok : ∀ t x, lkN ty t = some x → teOf P t = some x
theorem tb_of {P : Program} {l : List (Nat × TE)} (h : ∀ y ∈ l, teOf P y.1 = some y.2) : ∀ t x, lkN l t = some x → teOf P t = some x := fun t x ht => h (t, x) (lkN_mem ht)
section
variable {P : Program} {t : Nat} {x : TE} {w : World}
theorem te_inv (h : teOf P t = some x) : ∃ d i, P.underlying t = some d ∧ P.info? t = some i ∧ kdOf d = x.kd ∧ i.size = x.size ∧ i.bytes = x.bytes ∧ i.zero = some x.zero := by
  unfold teOf at h
  split at h
  · rename_i d i hd hi
    rw [Option.map_eq_some_iff] at h
    obtain ⟨z, hz, rfl⟩ := h
    exact ⟨d, i, hd, hi, rfl, rfl, rfl, hz⟩
  · cases h
theorem run_und {d : TypeDesc} (h : P.underlying t = some d) (w : World) : (underlying t).run P w = .ok d w := run_underlying h w
theorem run_inf {i : TypeInfo} (h : P.info? t = some i) (w : World) : (typeInfo t).run P w = .ok i w := by
  simp [typeInfo, program, Sem.run_bind, h, Sem.run]
theorem run_sizeT (h : teOf P t = some x) (w : World) : (sizeOf t).run P w = .ok x.size w := by
  obtain ⟨d, i, hd, hi, h1, h2, h3, h4⟩ := te_inv h
  simp [sizeOf, Sem.run_bind, run_inf hi, Sem.run_pure, h2]
theorem run_isAgg (h : teOf P t = some x) (w : World) : (isAgg t).run P w = .ok x.kd.agg w := by
  obtain ⟨d, i, hd, hi, h1, h2, h3, h4⟩ := te_inv h
  rw [← h1]
  cases d <;> simp [isAgg, Sem.run_bind, run_und hd, kdOf, KD.agg, Sem.run_pure]
theorem run_zero (h : teOf P t = some x) (w : World) : (zeroValue t).run P w = .ok x.zero w := by
  obtain ⟨d, i, hd, hi, h1, h2, h3, h4⟩ := te_inv h
  simp [zeroValue, Sem.run_bind, run_inf hi, h4, Sem.run_pure]
theorem run_load1 {a : Addr} {v : Value} (hc : w.cell? a = some v) : (load a).run P w = .ok v w := by
  unfold load
  simp only [Sem.run]
  split
  · rename_i v' h'; rw [hc] at h'; cases h'; rfl
  · rename_i h'; rw [hc] at h'; cases h'
theorem run_loadVar_cell {a : Addr} {v : Value} (h : teOf P t = some x) (hx : x.kd.agg = false) (hc : w.cell? a = some v) : (loadVar t a).run P w = .ok v w := by
  unfold loadVar
  simp only [Sem.run_bind, run_isAgg h, hx, Result.andThen_ok]
  exact run_load1 hc
theorem run_loadVar_agg {a : Addr} {us : List Value} (h : teOf P t = some x) (hx : x.kd.agg = true) (hs : x.size = us.length) (hc : ∀ (j : Nat) (u : Value), us[j]? = some u → w.cell? (a.add j) = some u) : (loadVar t a).run P w = .ok (.agg us.toArray) w := by
  simp [loadVar, Sem.run_bind, run_isAgg h, hx, run_sizeT h, hs, run_loadCells_list w a us hc, Sem.run_pure]
end
theorem addr_add (g q j : Nat) : (⟨g, q, none⟩ : Addr).add j = ⟨g, q + j, none⟩ := by unfold Addr.add; split <;> simp_all
section
variable {E : En} {N : Nat} {P : Program} {ops : Array Oper} {o : Oper} {st : St} {r : List Oper} {acc : List (Fp × Ef)} {K : List (Fp × Ef) → St → Prop} {d : Nat} {ty : Nat} {pos : String} {af : Array Edge} {gd : Option (Nat × Bool)}
/-- The operations in the order of the text. -/
def Run (E : En) (N : Nat) (P : Program) (ops : Array Oper) : List Oper → List (Fp × Ef) → St → (List (Fp × Ef) → St → Prop) → Prop
  | [], acc, st, K => K acc st
  | o :: r, acc, st, K => ∃ f ef, OpAt E N P ops o st f ef ∧ Run E N P ops r ((f, ef) :: acc) (ef.ap o st) K
theorem run_seq : ∀ {l : List Oper} {acc : List (Fp × Ef)} {st : St}, Run E N P ops l acc st K → ∃ es st', Seq E N P ops l st es st' ∧ K (es.reverse ++ acc) st' := by
  intro l
  induction l with
  | nil => intro acc st h; unfold Run at h; exact ⟨[], st, .nil st, by simpa using h⟩
  | cons o l ih =>
    intro acc st h
    obtain ⟨f, ef, h1, h2⟩ := h
    obtain ⟨es, st', h3, h4⟩ := ih h2
    exact ⟨(f, ef) :: es, st', .cons h1 h3, by simpa using h4⟩
theorem run_nil (h : K acc st) : Run E N P ops [] acc st K := by unfold Run; exact h
variable {op : Op} {f : Fp} {t : TV} {fr : List (Nat × TV)} {H : List (Bid × Option Bk)}
theorem run_op0 (hw : wn ops ⟨some d, op, ty, pos, af, gd⟩ ⟨fr, H⟩ = some true) (hop : OpL E N P ops ⟨some d, op, ty, pos, af, gd⟩ ⟨fr, H⟩ f ⟨t, []⟩)
    (h : Run E N P ops r ((f, ⟨t, []⟩) :: acc) ⟨(d, t) :: fr, H⟩ K) : Run E N P ops (⟨some d, op, ty, pos, af, gd⟩ :: r) acc ⟨fr, H⟩ K := ⟨f, ⟨t, []⟩, .inl ⟨hw, hop⟩, h⟩
theorem run_op1 {b1 : Bid × Option Bk} (hw : wn ops ⟨some d, op, ty, pos, af, gd⟩ ⟨fr, H⟩ = some true) (hop : OpL E N P ops ⟨some d, op, ty, pos, af, gd⟩ ⟨fr, H⟩ f ⟨t, [b1]⟩)
    (h : Run E N P ops r ((f, ⟨t, [b1]⟩) :: acc) ⟨(d, t) :: fr, b1 :: H⟩ K) : Run E N P ops (⟨some d, op, ty, pos, af, gd⟩ :: r) acc ⟨fr, H⟩ K := ⟨f, ⟨t, [b1]⟩, .inl ⟨hw, hop⟩, h⟩
theorem run_op2 {b1 b2 : Bid × Option Bk} (hw : wn ops ⟨some d, op, ty, pos, af, gd⟩ ⟨fr, H⟩ = some true) (hop : OpL E N P ops ⟨some d, op, ty, pos, af, gd⟩ ⟨fr, H⟩ f ⟨t, [b1, b2]⟩)
    (h : Run E N P ops r ((f, ⟨t, [b1, b2]⟩) :: acc) ⟨(d, t) :: fr, b1 :: b2 :: H⟩ K) : Run E N P ops (⟨some d, op, ty, pos, af, gd⟩ :: r) acc ⟨fr, H⟩ K := ⟨f, ⟨t, [b1, b2]⟩, .inl ⟨hw, hop⟩, h⟩
theorem run_opn {b1 : Bid × Option Bk} (hw : wn ops ⟨none, op, ty, pos, af, gd⟩ ⟨fr, H⟩ = some true) (hop : OpL E N P ops ⟨none, op, ty, pos, af, gd⟩ ⟨fr, H⟩ f ⟨t, [b1]⟩)
    (h : Run E N P ops r ((f, ⟨t, [b1]⟩) :: acc) ⟨fr, b1 :: H⟩ K) : Run E N P ops (⟨none, op, ty, pos, af, gd⟩ :: r) acc ⟨fr, H⟩ K := ⟨f, ⟨t, [b1]⟩, .inl ⟨hw, hop⟩, h⟩
theorem run_skip (hw : wn ops ⟨some d, op, ty, pos, af, gd⟩ ⟨fr, H⟩ = some false)
    (h : Run E N P ops r ((⟨[], []⟩, ⟨.tup [], []⟩) :: acc) ⟨(d, .tup []) :: fr, H⟩ K) : Run E N P ops (⟨some d, op, ty, pos, af, gd⟩ :: r) acc ⟨fr, H⟩ K := ⟨_, _, .inr ⟨hw, trivial, rfl⟩, h⟩
theorem run_skipn (hw : wn ops ⟨none, op, ty, pos, af, gd⟩ ⟨fr, H⟩ = some false)
    (h : Run E N P ops r ((⟨[], []⟩, ⟨.tup [], []⟩) :: acc) ⟨fr, H⟩ K) : Run E N P ops (⟨none, op, ty, pos, af, gd⟩ :: r) acc ⟨fr, H⟩ K := ⟨_, _, .inr ⟨hw, trivial, rfl⟩, h⟩
/- What only computes. -/
theorem opL_move {x : Operand} {t : TV} (hc : okC x = true) (hx : st.ev x = t) : OpL E N P ops ⟨some d, .move x, ty, pos, af, gd⟩ st ⟨[], []⟩ ⟨t, []⟩ :=
  opL_pure fun st' cx a w ha hr => ⟨a.eval x, rfl, by rw [← hx, ← ev_agree ha (x := x) (by simp [Op.operands])]; exact hr.ev hc⟩
theorem opL_assign {x : Operand} {t : TV} (hc : okC x = true) (hx : st.ev x = t) : OpL E N P ops ⟨some d, .assign x, ty, pos, af, gd⟩ st ⟨[], []⟩ ⟨t, []⟩ :=
  opL_pure fun st' cx a w ha hr => ⟨a.eval x, rfl, by rw [← hx, ← ev_agree ha (x := x) (by simp [Op.operands])]; exact hr.ev hc⟩
theorem evv {x : Operand} {y : Value} {f : Fp} {st' : St} {cx : Cx} {a : Act} {w : World} (hx : st.ev x = .c (.p (.v y))) (hc : okC x = true) (ha : Agree ops o f st st') (hm : x ∈ o.op.operands.toList) (hr : Rel E N cx st' a w) :
    a.eval x = y ∧ atomB y = true := by
  have := hr.ev hc
  rw [ev_agree ha hm, hx] at this
  have h2 := this.2
  revert h2
  generalize a.eval x = z
  intro h2
  cases h2 with | v _ h => exact ⟨rfl, h⟩
theorem evc {x : Operand} {y : CV} {f : Fp} {st' : St} {cx : Cx} {a : Act} {w : World} (hx : st.ev x = .c y) (hc : okC x = true) (ha : Agree ops o f st st') (hm : x ∈ o.op.operands.toList) (hr : Rel E N cx st' a w) :
    (y = .any ∨ (a.eval x).oneCell' = true) ∧ RC cx w st'.h y (a.eval x) := by
  have := hr.ev hc
  rw [ev_agree ha hm, hx] at this
  exact this
theorem opL_pick {c x y : Operand} {b : Bool} {t : TV} (hb : okC c = true) (h1 : okC x = true) (h2 : okC y = true) (hv : st.ev c = .c (.p (.v (.bool b)))) (hx : (if b then st.ev x else st.ev y) = t) :
    OpL E N P ops ⟨some d, .pick c x y, ty, pos, af, gd⟩ st ⟨[], []⟩ ⟨t, []⟩ :=
  opL_pure fun st' cx a w ha hr => by
    have hc := (evv hv hb ha (by simp [Op.operands]) hr).1
    refine ⟨if b then a.eval x else a.eval y, ?_, ?_⟩
    · simp only [execOp, hc, Sem.run_bind, asBool, Sem.run_pure, Result.andThen_ok]
    · rw [← hx]
      cases b
      · have := hr.ev h2; rw [ev_agree ha (x := y) (by simp [Op.operands])] at this; exact this
      · have := hr.ev h1; rw [ev_agree ha (x := x) (by simp [Op.operands])] at this; exact this
theorem opL_nilCheck {x : Operand} {b : Bid} {i k : Nat} (hx : st.ev x = .c (.ptr b i k)) (hl : (st.h b).isSome = true) (hc : okC x = true) : OpL E N P ops ⟨some d, .nilCheck x, ty, pos, af, gd⟩ st ⟨[b], []⟩ ⟨.c (.ptr b i k), []⟩ :=
  opL_pure fun st' cx a w ha hr => by
    have h := evc hx hc ha (by simp [Op.operands]) hr
    obtain ⟨bk, hb⟩ := Option.isSome_iff_exists.1 hl
    obtain ⟨g, q, h1, h2⟩ := h.2 bk (by rw [ha.2 b (by simp)]; exact hb)
    refine ⟨a.eval x, ?_, h⟩
    rw [h2]
    simp [execOp, h2, Sem.run_pure]
/- Integers. -/
def intOp : BinOp → IntKind → Int → Int → Option Value
  | .add, k, a, b => some (.int k (k.wrap (a + b)))
  | .sub, k, a, b => some (.int k (k.wrap (a - b)))
  | .mul, k, a, b => some (.int k (k.wrap (a * b)))
  | .quo, k, a, b => if b = 0 then none else some (.int k (k.wrap (a.tdiv b)))
  | .rem, k, a, b => if b = 0 then none else some (.int k (a.tmod b))
  | .and, k, a, b => some (.int k (k.wrap (BitVec.ofInt k.bits a &&& BitVec.ofInt k.bits b).toNat))
  | .or, k, a, b => some (.int k (k.wrap (BitVec.ofInt k.bits a ||| BitVec.ofInt k.bits b).toNat))
  | .xor, k, a, b => some (.int k (k.wrap (BitVec.ofInt k.bits a ^^^ BitVec.ofInt k.bits b).toNat))
  | .andNot, k, a, b => some (.int k (k.wrap (BitVec.ofInt k.bits a &&& ~~~ BitVec.ofInt k.bits b).toNat))
  | .eql, _, a, b => some (.bool (a == b))
  | .neq, _, a, b => some (.bool (a != b))
  | .lss, _, a, b => some (.bool (decide (a < b)))
  | .leq, _, a, b => some (.bool (decide (a ≤ b)))
  | .gtr, _, a, b => some (.bool (decide (a > b)))
  | .geq, _, a, b => some (.bool (decide (a ≥ b)))
  | _, _, _, _ => none
theorem wf_tmod {k : IntKind} {a b : Int} (h : (Lit.int k a).wf = true) : (Lit.int k (a.tmod b)).wf = true := by
  have h2 : (a.tmod b).natAbs ≤ a.natAbs := by rw [Int.natAbs_tmod]; exact Nat.mod_le _ _
  have h3 : 0 ≤ a → 0 ≤ a.tmod b := fun h => Int.tmod_nonneg b h
  have h4 : a ≤ 0 → a.tmod b ≤ 0 := fun h => by
    have := Int.tmod_nonneg b (show 0 ≤ -a by omega)
    rw [Int.neg_tmod] at this
    omega
  simp only [Lit.wf, Bool.and_eq_true, decide_eq_true_eq] at h ⊢
  have h5 : k.min ≤ 0 := by cases k <;> decide
  have h6 : 0 ≤ k.max := by cases k <;> decide
  omega
theorem run_int {op : BinOp} {k : IntKind} {a b : Int} {y : Value} {xt : TypeId} (h : intOp op k a b = some y) (w : World) : (binOp op xt (.int k a) (.int k b)).run P w = .ok y w := by
  cases op <;> simp only [intOp, Option.some.injEq, reduceCtorEq] at h <;> (try (split at h <;> simp only [Option.some.injEq, reduceCtorEq] at h)) <;> subst h <;>
    simp [binOp, Op.intArith, Op.intDiv, Op.intBits, Op.intCmp, Sem.run_pure, *]
theorem run_guard_one {op : BinOp} {xt : TypeId} {x y : Operand} {a b : Value} (ha : ∀ cs, a ≠ .agg cs) (hb : a ≠ .nilIface) (w : World) : (eqGuard op xt x y a b).run P w = .ok () w := by
  unfold eqGuard
  cases op <;> simp [Sem.run_pure] <;> cases a <;> simp_all [Sem.run_pure] <;> cases b <;> simp [Sem.run_pure]
theorem run_guard_int {op : BinOp} {xt : TypeId} {x y : Operand} (k : IntKind) (n : Int) (b : Value) (w : World) : (eqGuard op xt x y (.int k n) b).run P w = .ok () w := run_guard_one (fun cs => by simp) (by simp) w
theorem run_guard_str {op : BinOp} {xt : TypeId} {x y : Operand} (s : ByteArray) (b : Value) (w : World) : (eqGuard op xt x y (.string s) b).run P w = .ok () w := run_guard_one (fun cs => by simp) (by simp) w
theorem run_guard_bool {op : BinOp} {xt : TypeId} {x y : Operand} (s : Bool) (b : Value) (w : World) : (eqGuard op xt x y (.bool s) b).run P w = .ok () w := run_guard_one (fun cs => by simp) (by simp) w
theorem opL_int {bop : BinOp} {xt yt : TypeId} {x y : Operand} {k : IntKind} {a b : Int} {z : Value} (h1 : st.ev x = .c (.p (.v (.int k a)))) (h2 : st.ev y = .c (.p (.v (.int k b)))) (hz : intOp bop k a b = some z) (hx : okC x = true) (hy : okC y = true) :
    OpL E N P ops ⟨some d, .binOp bop xt x y yt, ty, pos, af, gd⟩ st ⟨[], []⟩ ⟨.c (.p (.v z)), []⟩ :=
  opL_pure fun st' cx a' w ha hr => by
    obtain ⟨e1, w1⟩ := evv h1 hx ha (by simp [Op.operands]) hr
    obtain ⟨e2, w2⟩ := evv h2 hy ha (by simp [Op.operands]) hr
    have hwf : atomB z = true := by
      cases bop <;> simp only [intOp, Option.some.injEq, reduceCtorEq] at hz <;> (try (split at hz <;> simp only [Option.some.injEq, reduceCtorEq] at hz)) <;> subst hz <;>
        first | exact wf_wrap _ _ | rfl | exact wf_tmod w1
    refine ⟨z, ?_, .inr (atomB_one hwf), .v _ hwf⟩
    simp only [execOp, e1, e2, Sem.run_bind, run_guard_int, Result.andThen_ok, run_int hz, Sem.run_pure]
theorem opL_cmp {bop : BinOp} {xt yt : TypeId} {x y : Operand} {k : IntKind} {a b : Int} {c : Bool} (h1 : st.ev x = .c (.p (.v (.int k a)))) (h2 : st.ev y = .c (.p (.v (.int k b)))) (hz : intOp bop k a b = some (.bool c)) (hx : okC x = true) (hy : okC y = true) :
    OpL E N P ops ⟨some d, .binOp bop xt x y yt, ty, pos, af, gd⟩ st ⟨[], []⟩ ⟨.c (.p (.v (.bool c))), []⟩ := opL_int h1 h2 hz hx hy
theorem opL_add {xt yt : TypeId} {x y : Operand} {k : IntKind} {a b n : Int} (h1 : st.ev x = .c (.p (.v (.int k a)))) (h2 : st.ev y = .c (.p (.v (.int k b)))) (hz : k.wrap (a + b) = n) (hx : okC x = true) (hy : okC y = true) :
    OpL E N P ops ⟨some d, .binOp .add xt x y yt, ty, pos, af, gd⟩ st ⟨[], []⟩ ⟨.c (.p (.v (.int k n))), []⟩ := opL_int h1 h2 (by rw [← hz]; rfl) hx hy
theorem opL_sub {xt yt : TypeId} {x y : Operand} {k : IntKind} {a b n : Int} (h1 : st.ev x = .c (.p (.v (.int k a)))) (h2 : st.ev y = .c (.p (.v (.int k b)))) (hz : k.wrap (a - b) = n) (hx : okC x = true) (hy : okC y = true) :
    OpL E N P ops ⟨some d, .binOp .sub xt x y yt, ty, pos, af, gd⟩ st ⟨[], []⟩ ⟨.c (.p (.v (.int k n))), []⟩ := opL_int h1 h2 (by rw [← hz]; rfl) hx hy
theorem opL_mul {xt yt : TypeId} {x y : Operand} {k : IntKind} {a b n : Int} (h1 : st.ev x = .c (.p (.v (.int k a)))) (h2 : st.ev y = .c (.p (.v (.int k b)))) (hz : k.wrap (a * b) = n) (hx : okC x = true) (hy : okC y = true) :
    OpL E N P ops ⟨some d, .binOp .mul xt x y yt, ty, pos, af, gd⟩ st ⟨[], []⟩ ⟨.c (.p (.v (.int k n))), []⟩ := opL_int h1 h2 (by rw [← hz]; rfl) hx hy
theorem wf_fdiv {k : IntKind} {a : Int} {n : Nat} (h : (Lit.int k a).wf = true) : (Lit.int k (a.fdiv (2 ^ n))).wf = true := by
  have hp : (0 : Int) < 2 ^ n := by have := Nat.two_pow_pos n; exact_mod_cast this
  simp only [Lit.wf, Bool.and_eq_true, decide_eq_true_eq] at h ⊢
  have h5 : k.min ≤ 0 := by cases k <;> decide
  have h6 : 0 ≤ k.max := by cases k <;> decide
  have e : a.fdiv (2 ^ n) = a / 2 ^ n := by rw [Int.fdiv_eq_ediv_of_nonneg _ (by omega)]
  rw [e]
  by_cases ha : 0 ≤ a
  · have h1 := Int.ediv_nonneg ha (Int.le_of_lt hp)
    have h2 : a / 2 ^ n ≤ a := Int.ediv_le_self _ ha
    omega
  · have h1 : a / 2 ^ n < 0 := Int.ediv_neg_of_neg_of_pos (by omega) hp
    have h2 : a ≤ a / 2 ^ n := by
      rw [Int.le_ediv_iff_mul_le hp]
      have : a * 2 ^ n ≤ a * 1 := Int.mul_le_mul_of_nonpos_left (by omega) (by omega)
      omega
    omega
theorem opL_shl {xt yt : TypeId} {x y : Operand} {k k' : IntKind} {a b n : Int} (h1 : st.ev x = .c (.p (.v (.int k a)))) (h2 : st.ev y = .c (.p (.v (.int k' b)))) (hb : 0 ≤ b) (hz : k.wrap (a * 2 ^ (min b.toNat k.bits)) = n) (hx : okC x = true) (hy : okC y = true) :
    OpL E N P ops ⟨some d, .binOp .shl xt x y yt, ty, pos, af, gd⟩ st ⟨[], []⟩ ⟨.c (.p (.v (.int k n))), []⟩ :=
  opL_pure fun st' cx a' w ha hr => by
    obtain ⟨e1, w1⟩ := evv h1 hx ha (by simp [Op.operands]) hr
    obtain ⟨e2, w2⟩ := evv h2 hy ha (by simp [Op.operands]) hr
    have hwf : atomB (.int k n) = true := by rw [← hz]; exact wf_wrap _ _
    refine ⟨.int k n, ?_, .inr (atomB_one hwf), .v _ hwf⟩
    simp only [execOp, e1, e2, Sem.run_bind, run_guard_int, Result.andThen_ok, binOp, Op.shift, if_neg (show ¬ b < 0 by omega), Sem.run_pure, hz]
theorem opL_shr {xt yt : TypeId} {x y : Operand} {k k' : IntKind} {a b n : Int} (h1 : st.ev x = .c (.p (.v (.int k a)))) (h2 : st.ev y = .c (.p (.v (.int k' b)))) (hb : 0 ≤ b) (hz : a.fdiv (2 ^ (min b.toNat k.bits)) = n) (hx : okC x = true) (hy : okC y = true) :
    OpL E N P ops ⟨some d, .binOp .shr xt x y yt, ty, pos, af, gd⟩ st ⟨[], []⟩ ⟨.c (.p (.v (.int k n))), []⟩ :=
  opL_pure fun st' cx a' w ha hr => by
    obtain ⟨e1, w1⟩ := evv h1 hx ha (by simp [Op.operands]) hr
    obtain ⟨e2, w2⟩ := evv h2 hy ha (by simp [Op.operands]) hr
    have hwf : atomB (.int k n) = true := by rw [← hz]; exact wf_fdiv w1
    refine ⟨.int k n, ?_, .inr (atomB_one hwf), .v _ hwf⟩
    simp only [execOp, e1, e2, Sem.run_bind, run_guard_int, Result.andThen_ok, binOp, Op.shift, if_neg (show ¬ b < 0 by omega), Sem.run_pure, hz]
theorem opL_not {xt : TypeId} {x : Operand} {b c : Bool} (h1 : st.ev x = .c (.p (.v (.bool b)))) (hz : (!b) = c) (hx : okC x = true) : OpL E N P ops ⟨some d, .unOp .not xt x, ty, pos, af, gd⟩ st ⟨[], []⟩ ⟨.c (.p (.v (.bool c))), []⟩ :=
  opL_pure fun st' cx a' w ha hr => by
    obtain ⟨e1, w1⟩ := evv h1 hx ha (by simp [Op.operands]) hr
    refine ⟨.bool c, ?_, .inr rfl, .v _ rfl⟩
    rw [← hz]
    simp only [execOp, e1, Op.unary, Sem.run_bind, Sem.run_pure, Result.andThen_ok]
theorem opL_neg {xt : TypeId} {x : Operand} {k : IntKind} {a n : Int} (h1 : st.ev x = .c (.p (.v (.int k a)))) (hz : k.wrap (0 - a) = n) (hx : okC x = true) : OpL E N P ops ⟨some d, .unOp .neg xt x, ty, pos, af, gd⟩ st ⟨[], []⟩ ⟨.c (.p (.v (.int k n))), []⟩ :=
  opL_pure fun st' cx a' w ha hr => by
    obtain ⟨e1, w1⟩ := evv h1 hx ha (by simp [Op.operands]) hr
    have hwf : atomB (.int k n) = true := by rw [← hz]; exact wf_wrap _ _
    refine ⟨.int k n, ?_, .inr (atomB_one hwf), .v _ hwf⟩
    simp only [execOp, e1, Op.unary, Op.intArith, Sem.run_bind, Sem.run_pure, Result.andThen_ok, hz]
/- Strings. -/
def strOp : BinOp → ByteArray → ByteArray → Option Bool
  | .eql, a, b => some (a.toList == b.toList)
  | .neq, a, b => some (!(a.toList == b.toList))
  | .lss, a, b => some (Op.bytesLess a.toList b.toList)
  | .leq, a, b => some (Op.bytesLess a.toList b.toList || a.toList == b.toList)
  | .gtr, a, b => some (!(Op.bytesLess a.toList b.toList || a.toList == b.toList))
  | .geq, a, b => some (!(Op.bytesLess a.toList b.toList))
  | _, _, _ => none
theorem opL_str {bop : BinOp} {xt yt : TypeId} {x y : Operand} {a b : ByteArray} {c : Bool} (h1 : st.ev x = .c (.p (.v (.string a)))) (h2 : st.ev y = .c (.p (.v (.string b)))) (hz : strOp bop a b = some c) (hx : okC x = true) (hy : okC y = true) :
    OpL E N P ops ⟨some d, .binOp bop xt x y yt, ty, pos, af, gd⟩ st ⟨[], []⟩ ⟨.c (.p (.v (.bool c))), []⟩ :=
  opL_pure fun st' cx a' w ha hr => by
    obtain ⟨e1, w1⟩ := evv h1 hx ha (by simp [Op.operands]) hr
    obtain ⟨e2, w2⟩ := evv h2 hy ha (by simp [Op.operands]) hr
    refine ⟨.bool c, ?_, .inr rfl, .v _ rfl⟩
    have : (binOp bop xt (.string a) (.string b)).run P w = .ok (.bool c) w := by
      cases bop <;> simp only [strOp, Option.some.injEq, reduceCtorEq] at hz <;> subst hz <;> simp [binOp, Op.stringOp, Sem.run_pure]
    simp only [execOp, e1, e2, Sem.run_bind, run_guard_str, Result.andThen_ok, this, Sem.run_pure]
theorem opL_cat {xt yt : TypeId} {x y : Operand} {a b : ByteArray} (h1 : st.ev x = .c (.p (.v (.string a)))) (h2 : st.ev y = .c (.p (.v (.string b)))) (hz : a.size + b.size ≤ maxLen) (hx : okC x = true) (hy : okC y = true) :
    OpL E N P ops ⟨some d, .binOp .add xt x y yt, ty, pos, af, gd⟩ st ⟨[], []⟩ ⟨.c (.p (.v (.string (a ++ b)))), []⟩ :=
  opL_pure fun st' cx a' w ha hr => by
    obtain ⟨e1, w1⟩ := evv h1 hx ha (by simp [Op.operands]) hr
    obtain ⟨e2, w2⟩ := evv h2 hy ha (by simp [Op.operands]) hr
    have hwf : atomB (.string (a ++ b)) = true := by simp [atomB, ByteArray.size_append]; exact hz
    refine ⟨.string (a ++ b), ?_, .inr (atomB_one hwf), .v _ hwf⟩
    have hi : IntKind.i64.max = 9223372036854775807 := rfl
    have hn : ¬ ((a.size + b.size : Nat) : Int) > IntKind.i64.max := by rw [hi]; unfold maxLen at hz; omega
    simp only [execOp, e1, e2, Sem.run_bind, run_guard_str, Result.andThen_ok, binOp, Op.stringOp, if_neg hn, Sem.run_pure]
/- Conversions of integers. -/
theorem opL_conv {T : Tb P} {s t : TypeId} {x : Operand} {k k' : IntKind} {a n : Int} {te ts : TE} (h1 : st.ev x = .c (.p (.v (.int k a)))) (hs : lkN T.ty s = some ts) (ht : lkN T.ty t = some te) (hk : te.kd = .int k') (hz : k'.wrap a = n) (hx : okC x = true) :
    OpL E N P ops ⟨some d, .convert s t x, ty, pos, af, gd⟩ st ⟨[], []⟩ ⟨.c (.p (.v (.int k' n))), []⟩ :=
  opL_pure fun st' cx a' w ha hr => by
    obtain ⟨e1, w1⟩ := evv h1 hx ha (by simp [Op.operands]) hr
    have hwf : atomB (.int k' n) = true := by rw [← hz]; exact wf_wrap _ _
    refine ⟨.int k' n, ?_, .inr (atomB_one hwf), .v _ hwf⟩
    obtain ⟨ds, is, hds, _⟩ := te_inv (T.ok _ _ hs)
    obtain ⟨dt, it, hdt, _, hkd, _⟩ := te_inv (T.ok _ _ ht)
    have hd : dt = .int k' := by rw [hk] at hkd; cases dt <;> simp_all [kdOf]
    subst hd
    simp only [execOp, e1, Sem.run_bind, convert, run_und hds, run_und hdt, Result.andThen_ok, Conv.intToInt, Sem.run_pure, hz]
/- Parts of a tuple. -/
theorem opL_extract {x : Operand} {ts : List TV} {i : Nat} {t : TV} (h1 : st.ev x = .tup ts) (hi : ts[i]? = some t) (ht : ∀ us, t ≠ .tup us) (hx : okC x = true) : OpL E N P ops ⟨some d, .extract x i, ty, pos, af, gd⟩ st ⟨[], []⟩ ⟨t, []⟩ :=
  opL_pure fun st' cx a' w ha hr => by
    have hrt := hr.ev hx
    rw [ev_agree ha (x := x) (by simp [Op.operands]), h1] at hrt
    obtain ⟨vs, e1, e2, e3⟩ := hrt
    obtain ⟨u, hu, hr1⟩ := e3 i t hi
    refine ⟨u, ?_, ?_⟩
    · simp only [execOp, e1, Sem.run_bind, Instr.extract, hu, Sem.run_pure, Result.andThen_ok]
    · cases t with
      | c x => exact hr1
      | agg cs => exact hr1
      | tup us => exact absurd rfl (ht us)
end
end Go.Proofs.Ythlaenafkihjiaa
/- Operations over abstract worlds, second part: loads, addresses, lengths, parts of slices and strings. Conditions: those of the operations. -/
namespace Go.Proofs.Ythlaenafkihjiaa
open Go.RowKit
set_option linter.unusedVariables false
set_option linter.unusedSimpArgs false
section
variable {E : En} {N : Nat} {P : Program} {T : Tb P} {ops : Array Oper} {o : Oper} {st : St} {d : Nat} {ty : Nat} {pos : String} {af : Array Edge} {gd : Option (Nat × Bool)}
/-- Where a pointer reads the cells cs. -/
def PtrSrc (E : En) (N : Nat) (ops : Array Oper) (o : Oper) (st : St) (rb : List Bid) (x : Operand) (cs : List CV) : Prop :=
  ∀ st' cx a w, Agree ops o ⟨rb, []⟩ st st' → Rel E N cx st' a w → ∃ g q, a.eval x = .pointer (some ⟨g, q, none⟩) ∧ ∀ (j : Nat) (c : CV), cs[j]? = some c → ∃ u, w.cell? ⟨g, q + j, none⟩ = some u ∧ u.oneCell' = true ∧ RC cx w st'.h c u
theorem load_cell {x : Operand} {t : TypeId} {te : TE} {c : CV} {rb : List Bid} (ht : lkN T.ty t = some te) (hk : te.kd.agg = false) (h : PtrSrc E N ops ⟨some d, .load t x, ty, pos, af, gd⟩ st rb x [c]) : OpL E N P ops ⟨some d, .load t x, ty, pos, af, gd⟩ st ⟨rb, []⟩ ⟨.c c, []⟩ :=
  opL_pure fun st' cx a w ha hr => by
    obtain ⟨g, q, h1, h2⟩ := h st' cx a w ha hr
    obtain ⟨u, h3, h4, h5⟩ := h2 0 c rfl
    have h3' : w.cell? ⟨g, q, none⟩ = some u := by simpa using h3
    refine ⟨u, ?_, .inr h4, h5⟩
    simp only [execOp, h1, Sem.run_bind, Instr.loadAt, Instr.sureAddr, Sem.run_pure, Result.andThen_ok, run_loadVar_cell (T.ok _ _ ht) hk h3']
theorem load_agg {x : Operand} {t : TypeId} {te : TE} {cs : List CV} {rb : List Bid} (ht : lkN T.ty t = some te) (hk : te.kd.agg = true) (hl : cs.length = te.size) (h : PtrSrc E N ops ⟨some d, .load t x, ty, pos, af, gd⟩ st rb x cs) : OpL E N P ops ⟨some d, .load t x, ty, pos, af, gd⟩ st ⟨rb, []⟩ ⟨.agg cs, []⟩ :=
  opL_pure fun st' cx a w ha hr => by
    obtain ⟨g, q, h1, h2⟩ := h st' cx a w ha hr
    -- the values
    have hex : ∃ us : List Value, us.length = cs.length ∧ ∀ (j : Nat) (c : CV), cs[j]? = some c → ∃ u, us[j]? = some u ∧ w.cell? ⟨g, q + j, none⟩ = some u ∧ u.oneCell' = true ∧ RC cx w st'.h c u := by
      refine ⟨(List.range cs.length).map fun j => (w.cell? ⟨g, q + j, none⟩).getD undef, by simp, fun j c hj => ?_⟩
      obtain ⟨u, h3, h4, h5⟩ := h2 j c hj
      have hlt := (List.getElem?_eq_some_iff.1 hj).1
      refine ⟨u, ?_, h3, h4, h5⟩
      rw [List.getElem?_map, List.getElem?_range hlt]
      simp [h3]
    obtain ⟨us, hul, hus⟩ := hex
    refine ⟨.agg us.toArray, ?_, us.toArray, rfl, by simp [hul], fun i c hi => ?_⟩
    · have hcell : ∀ (j : Nat) (u : Value), us[j]? = some u → w.cell? ((⟨g, q, none⟩ : Addr).add j) = some u := by
        intro j u hj
        have hlt := (List.getElem?_eq_some_iff.1 hj).1
        obtain ⟨u', h3, h4, _⟩ := hus j cs[j] (List.getElem?_eq_getElem (by omega))
        rw [hj] at h3
        cases h3
        rw [addr_add]; exact h4
      simp only [execOp, h1, Sem.run_bind, Instr.loadAt, Instr.sureAddr, Sem.run_pure, Result.andThen_ok, run_loadVar_agg (T.ok _ _ ht) hk (by rw [← hl, hul]) hcell]
    · obtain ⟨u, h3, h4, h5, h6⟩ := hus i c hi
      exact ⟨u, by simpa using h3, h5, h6⟩
theorem src_box {x : Operand} {b : Bid} {k : Nat} {all cs : List CV} (hm : x ∈ o.op.operands.toList) (hc : okC x = true) (h1 : st.ev x = .c (.ptr b 0 k)) (h2 : st.h b = some (.box all)) (h3 : ∀ (j : Nat) (c : CV), cs[j]? = some c → all[k + j]? = some c) : PtrSrc E N ops o st [b] x cs := by
  intro st' cx a w ha hr
  have hb : st'.h b = some (.box all) := by rw [ha.2 b (by simp)]; exact h2
  have hrb := hr.bl b _ hb
  obtain ⟨-, h4⟩ := evc h1 hc ha hm hr
  obtain ⟨g, q, h5, h6⟩ := h4 _ hb
  obtain ⟨g', q', c, el, h7, h8, h9, h10, h11⟩ := hrb
  rw [h5] at h7
  cases h7
  refine ⟨g, q + k, by simpa [Bk.e] using h6, fun j cv hj => ?_⟩
  obtain ⟨u, hu, h12, h13⟩ := h11 (k + j) cv (h3 j cv hj)
  refine ⟨u, ?_, h12, h13⟩
  rw [World.cell?, h8]
  simpa [Nat.add_assoc] using hu
theorem src_row {x : Operand} {b : Bid} {i k e : Nat} {rows : List (List PV)} {mu : Bool} {r : List PV} {cs : List CV} (hm : x ∈ o.op.operands.toList) (hc : okC x = true) (h1 : st.ev x = .c (.ptr b i k)) (h2 : st.h b = some (.row e rows mu)) (hi : rows[i]? = some r)
    (h3 : ∀ (j : Nat) (c : CV), cs[j]? = some c → ∃ p, r[k + j]? = some p ∧ c = .p p) : PtrSrc E N ops o st [b] x cs := by
  intro st' cx a w ha hr
  have hb : st'.h b = some (.row e rows mu) := by rw [ha.2 b (by simp)]; exact h2
  have hrb := hr.bl b _ hb
  obtain ⟨-, h4⟩ := evc h1 hc ha hm hr
  obtain ⟨g, q, h5, h6⟩ := h4 _ hb
  obtain ⟨h7, h8, h9⟩ := hrb
  rw [h5] at h9
  obtain ⟨rfl, c, el, fz, capR, h10, h11, h12, h13, h14, h15, h16⟩ := h9
  refine ⟨g, 0 + i * e + k, by simpa [Bk.e] using h6, fun j cv hj => ?_⟩
  obtain ⟨p, hp, rfl⟩ := h3 j cv hj
  obtain ⟨u, hu, h17⟩ := h16 i r (k + j) p hi hp
  refine ⟨u, ?_, h17.one, h17⟩
  rw [World.cell?, h10]
  simpa [Nat.add_assoc] using hu
theorem src_ep {x : Operand} {k : Nat} {r : List PV} {cs : List CV} (hm : x ∈ o.op.operands.toList) (hc : okC x = true) (h1 : st.ev x = .c (.ep r k)) (h3 : ∀ (j : Nat) (c : CV), cs[j]? = some c → ∃ p, r[k + j]? = some p ∧ c = .p p) : PtrSrc E N ops o st [] x cs := by
  intro st' cx a w ha hr
  obtain ⟨-, g, off, h5, h6, h7, h8⟩ := evc h1 hc ha hm hr
  refine ⟨g, off + k, h5, fun j cv hj => ?_⟩
  obtain ⟨p, hp, rfl⟩ := h3 j cv hj
  obtain ⟨u, hu, h9⟩ := h8 (k + j) p hp
  exact ⟨u, by rw [Nat.add_assoc]; exact hu, h9.one, h9⟩
theorem one_at {α : Type} {c : α} {Q : Nat → α → Prop} (h : Q 0 c) : ∀ (j : Nat) (c' : α), [c][j]? = some c' → Q j c' := by
  intro j c' hj
  cases j with
  | zero => simp at hj; subst hj; exact h
  | succ j => simp at hj
theorem opL_load_box {x : Operand} {b : Bid} {k : Nat} {all : List CV} {c : CV} {t : TypeId} {te : TE} (h1 : st.ev x = .c (.ptr b 0 k)) (h2 : st.h b = some (.box all)) (h3 : all[k]? = some c) (ht : lkN T.ty t = some te) (hk : te.kd.agg = false) (hc : okC x = true) :
    OpL E N P ops ⟨some d, .load t x, ty, pos, af, gd⟩ st ⟨[b], []⟩ ⟨.c c, []⟩ := load_cell ht hk (src_box (by simp [Op.operands]) hc h1 h2 (one_at h3))
theorem opL_loads_box {x : Operand} {b : Bid} {k : Nat} {all cs : List CV} {t : TypeId} {te : TE} (h1 : st.ev x = .c (.ptr b 0 k)) (h2 : st.h b = some (.box all)) (ht : lkN T.ty t = some te) (hk : te.kd.agg = true) (h3 : (all.drop k).take te.size = cs) (hl : cs.length = te.size) (hc : okC x = true) :
    OpL E N P ops ⟨some d, .load t x, ty, pos, af, gd⟩ st ⟨[b], []⟩ ⟨.agg cs, []⟩ :=
  load_agg ht hk hl (src_box (by simp [Op.operands]) hc h1 h2 (by
    intro j c hj
    rw [← h3, List.getElem?_take] at hj
    split at hj
    · rw [List.getElem?_drop] at hj; exact hj
    · cases hj))
theorem opL_load_row {x : Operand} {b : Bid} {i k e : Nat} {rows : List (List PV)} {mu : Bool} {r : List PV} {p : PV} {t : TypeId} {te : TE} (h1 : st.ev x = .c (.ptr b i k)) (h2 : st.h b = some (.row e rows mu)) (hi : rows[i]? = some r) (h3 : r[k]? = some p) (ht : lkN T.ty t = some te) (hk : te.kd.agg = false) (hc : okC x = true) :
    OpL E N P ops ⟨some d, .load t x, ty, pos, af, gd⟩ st ⟨[b], []⟩ ⟨.c (.p p), []⟩ := load_cell ht hk (src_row (by simp [Op.operands]) hc h1 h2 hi (one_at ⟨p, h3, rfl⟩))
theorem map_at {r ps : List PV} {k n : Nat} {cs : List CV} (h3 : (r.drop k).take n = ps) (h4 : ps.map .p = cs) : ∀ (j : Nat) (c : CV), cs[j]? = some c → ∃ p, r[k + j]? = some p ∧ c = .p p := by
  intro j c hj
  rw [← h4, List.getElem?_map] at hj
  cases hp : ps[j]? with
  | none => rw [hp] at hj; cases hj
  | some p =>
    rw [hp] at hj
    simp only [Option.map_some, Option.some.injEq] at hj
    rw [← h3, List.getElem?_take] at hp
    split at hp
    · rw [List.getElem?_drop] at hp; exact ⟨p, hp, hj.symm⟩
    · cases hp
theorem opL_loads_row {x : Operand} {b : Bid} {i k e : Nat} {rows : List (List PV)} {mu : Bool} {r ps : List PV} {cs : List CV} {t : TypeId} {te : TE} (h1 : st.ev x = .c (.ptr b i k)) (h2 : st.h b = some (.row e rows mu)) (hi : rows[i]? = some r) (ht : lkN T.ty t = some te) (hk : te.kd.agg = true) (h3 : (r.drop k).take te.size = ps) (h4 : ps.map .p = cs) (hl : cs.length = te.size) (hc : okC x = true) :
    OpL E N P ops ⟨some d, .load t x, ty, pos, af, gd⟩ st ⟨[b], []⟩ ⟨.agg cs, []⟩ := load_agg ht hk hl (src_row (by simp [Op.operands]) hc h1 h2 hi (map_at h3 h4))
theorem opL_load_ep {x : Operand} {k : Nat} {r : List PV} {p : PV} {t : TypeId} {te : TE} (h1 : st.ev x = .c (.ep r k)) (h3 : r[k]? = some p) (ht : lkN T.ty t = some te) (hk : te.kd.agg = false) (hc : okC x = true) :
    OpL E N P ops ⟨some d, .load t x, ty, pos, af, gd⟩ st ⟨[], []⟩ ⟨.c (.p p), []⟩ := load_cell ht hk (src_ep (by simp [Op.operands]) hc h1 (one_at ⟨p, h3, rfl⟩))
theorem opL_loads_ep {x : Operand} {k : Nat} {r ps : List PV} {cs : List CV} {t : TypeId} {te : TE} (h1 : st.ev x = .c (.ep r k)) (ht : lkN T.ty t = some te) (hk : te.kd.agg = true) (h3 : (r.drop k).take te.size = ps) (h4 : ps.map .p = cs) (hl : cs.length = te.size) (hc : okC x = true) :
    OpL E N P ops ⟨some d, .load t x, ty, pos, af, gd⟩ st ⟨[], []⟩ ⟨.agg cs, []⟩ := load_agg ht hk hl (src_ep (by simp [Op.operands]) hc h1 (map_at h3 h4))
/- Addresses. -/
theorem kd_struct {s : TypeId} {ts : TE} {fs : List (Nat × Nat)} (hs : lkN T.ty s = some ts) (hk : ts.kd = .struct fs) : ∃ F : Array Field, P.underlying s = some (.struct F) ∧ F.toList.map (fun f => (f.offset, f.type)) = fs := by
  obtain ⟨dd, i, h1, _, h2, _⟩ := te_inv (T.ok _ _ hs)
  rw [hk] at h2
  cases dd <;> simp_all [kdOf]
theorem kd_slice {s e : TypeId} {ts : TE} (hs : lkN T.ty s = some ts) (hk : ts.kd = .slice e) : P.underlying s = some (.slice e) := by
  obtain ⟨dd, i, h1, _, h2, _⟩ := te_inv (T.ok _ _ hs)
  rw [hk] at h2
  cases dd <;> simp_all [kdOf]
theorem kd_array {s e : TypeId} {n : Nat} {ts : TE} (hs : lkN T.ty s = some ts) (hk : ts.kd = .array n e) : P.underlying s = some (.array n e) := by
  obtain ⟨dd, i, h1, _, h2, _⟩ := te_inv (T.ok _ _ hs)
  rw [hk] at h2
  cases dd <;> simp_all [kdOf]
theorem kd_string {s : TypeId} {ts : TE} (hs : lkN T.ty s = some ts) (hk : ts.kd = .string) : P.underlying s = some .string := by
  obtain ⟨dd, i, h1, _, h2, _⟩ := te_inv (T.ok _ _ hs)
  rw [hk] at h2
  cases dd <;> simp_all [kdOf]
theorem kd_int {s : TypeId} {k : IntKind} {ts : TE} (hs : lkN T.ty s = some ts) (hk : ts.kd = .int k) : P.underlying s = some (.int k) := by
  obtain ⟨dd, i, h1, _, h2, _⟩ := te_inv (T.ok _ _ hs)
  rw [hk] at h2
  cases dd <;> simp_all [kdOf]
theorem run_field {s : TypeId} {ts tf : TE} {fs : List (Nat × Nat)} {f off ft g q : Nat} {w : World} (hs : lkN T.ty s = some ts) (hk : ts.kd = .struct fs) (hf : fs[f]? = some (off, ft)) (hft : lkN T.ty ft = some tf) (hz : tf.size ≠ 0) :
    (Instr.fieldAt s (.pointer (some ⟨g, q, none⟩)) f).run P w = .ok (.pointer (some ⟨g, q + off, none⟩)) w := by
  obtain ⟨F, h1, h2⟩ := kd_struct hs hk
  rw [← h2, List.getElem?_map] at hf
  cases hF : F.toList[f]? with
  | none => rw [hF] at hf; cases hf
  | some fl =>
    rw [hF] at hf
    simp only [Option.map_some, Option.some.injEq, Prod.mk.injEq] at hf
    obtain ⟨h3, h4⟩ := hf
    have h5 : F[f]? = some fl := by simpa using hF
    have h6 : (sizeOf fl.type).run P w = .ok tf.size w := by rw [h4]; exact run_sizeT (T.ok _ _ hft) w
    simp only [Instr.fieldAt, Sem.run_bind, run_und h1, Result.andThen_ok, h5, Instr.sureAddr, Sem.run_pure, fieldPlace, h6, if_neg hz, addr_add, h3]
theorem opL_field_ptr {x : Operand} {b : Bid} {i k k' f off ft s : Nat} {ts tf : TE} {fs : List (Nat × Nat)} (h1 : st.ev x = .c (.ptr b i k)) (hb : (st.h b).isSome = true) (hs : lkN T.ty s = some ts) (hk : ts.kd = .struct fs) (hf : fs[f]? = some (off, ft)) (hft : lkN T.ty ft = some tf) (hz : tf.size ≠ 0) (hkk : k + off = k') (hc : okC x = true) :
    OpL E N P ops ⟨some d, .fieldAddr s x f, ty, pos, af, gd⟩ st ⟨[b], []⟩ ⟨.c (.ptr b i k'), []⟩ :=
  opL_pure fun st' cx a w ha hr => by
    obtain ⟨-, h4⟩ := evc h1 hc ha (by simp [Op.operands]) hr
    obtain ⟨bk, hbk⟩ := Option.isSome_iff_exists.1 hb
    have hb' : st'.h b = some bk := by rw [ha.2 b (by simp)]; exact hbk
    obtain ⟨g, q, h5, h6⟩ := h4 _ hb'
    refine ⟨.pointer (some ⟨g, q + i * bk.e + k', none⟩), ?_, .inr rfl, fun bk2 h7 => ?_⟩
    · simp only [execOp, h6, Sem.run_bind, run_field hs hk hf hft hz, Result.andThen_ok, Sem.run_pure, ← hkk, Nat.add_assoc]
    · rw [hb'] at h7; cases h7
      exact ⟨g, q, h5, rfl⟩
theorem opL_field_ep {x : Operand} {r : List PV} {k k' f off ft s : Nat} {ts tf : TE} {fs : List (Nat × Nat)} (h1 : st.ev x = .c (.ep r k)) (hs : lkN T.ty s = some ts) (hk : ts.kd = .struct fs) (hf : fs[f]? = some (off, ft)) (hft : lkN T.ty ft = some tf) (hz : tf.size ≠ 0) (hkk : k + off = k') (hc : okC x = true) :
    OpL E N P ops ⟨some d, .fieldAddr s x f, ty, pos, af, gd⟩ st ⟨[], []⟩ ⟨.c (.ep r k'), []⟩ :=
  opL_pure fun st' cx a w ha hr => by
    obtain ⟨-, g, q, h5, h6, h7, h8⟩ := evc h1 hc ha (by simp [Op.operands]) hr
    refine ⟨.pointer (some ⟨g, q + k', none⟩), ?_, .inr rfl, g, q, rfl, h6, h7, h8⟩
    simp only [execOp, h5, Sem.run_bind, run_field hs hk hf hft hz, Result.andThen_ok, Sem.run_pure, ← hkk, Nat.add_assoc]
theorem run_index_slice {t e : TypeId} {tt te : TE} {g q len cap j : Nat} {k : IntKind} {w : World} (ht : lkN T.ty t = some tt) (hk : tt.kd = .slice e) (he : lkN T.ty e = some te) (hj : j < len) :
    (Instr.indexAt t (.slice (some ⟨g, q, none⟩) len cap) (.int k j)).run P w = .ok (.pointer (some ⟨g, q + j * te.size, none⟩)) w := by
  simp only [Instr.indexAt, Sem.run_bind, asIntOf, Sem.run_pure, Result.andThen_ok, run_und (kd_slice ht hk), run_sizeT (T.ok _ _ he)]
  rw [if_pos (by omega)]
  simp only [Sem.run_bind, Sem.run_pure, Result.andThen_ok, run_sizeT (T.ok _ _ he), Int.toNat_natCast, addr_add]
theorem opL_index_l {x y : Operand} {t el e : Nat} {rows : List (List PV)} {r : List PV} {k : IntKind} {n : Int} {j : Nat} {tt te : TE} (h1 : st.ev x = .c (.p (.l e rows))) (h2 : st.ev y = .c (.p (.v (.int k n)))) (hn : n = (j : Int)) (hj : rows[j]? = some r)
    (ht : lkN T.ty t = some tt) (hk : tt.kd = .slice el) (hel : lkN T.ty el = some te) (he : te.size = e) (hx : okC x = true) (hy : okC y = true) :
    OpL E N P ops ⟨some d, .indexAddr t x y, ty, pos, af, gd⟩ st ⟨[], []⟩ ⟨.c (.ep r 0), []⟩ :=
  opL_pure fun st' cx a w ha hr => by
    obtain ⟨e2, w2⟩ := evv h2 hy ha (by simp [Op.operands]) hr
    obtain ⟨-, h4⟩ := evc h1 hx ha (by simp [Op.operands]) hr
    have hjl := (List.getElem?_eq_some_iff.1 hj).1
    revert h4
    generalize hz : a.eval x = z
    intro h4
    cases h4 with
    | l e rows a' cap c q1 q2 q3 q4 q5 =>
      rcases q4 with rfl | ⟨g, off, rfl, hg, hl, hcell⟩
      · simp at hj
      · refine ⟨.pointer (some ⟨g, off + j * e, none⟩), ?_, .inr rfl, g, off + j * e, rfl, hg, hl, fun m p hp => ⟨c j m, by rw [← hcell j r m p hj hp], q5 j r m p hj hp⟩⟩
        subst hn
        simp only [execOp, hz, e2, Sem.run_bind, run_index_slice ht hk hel hjl, he, Result.andThen_ok, Sem.run_pure]
theorem opL_index_sl {x y : Operand} {t el e off m : Nat} {b : Bid} {rows : List (List PV)} {mu : Bool} {k : IntKind} {n : Int} {j i' : Nat} {tt te : TE} (h1 : st.ev x = .c (.sl b off m)) (hb : st.h b = some (.row e rows mu)) (h2 : st.ev y = .c (.p (.v (.int k n)))) (hn : n = (j : Int)) (hj : j < m)
    (ht : lkN T.ty t = some tt) (hk : tt.kd = .slice el) (hel : lkN T.ty el = some te) (he : te.size = e) (hi : off + j = i') (hx : okC x = true) (hy : okC y = true) :
    OpL E N P ops ⟨some d, .indexAddr t x y, ty, pos, af, gd⟩ st ⟨[b], []⟩ ⟨.c (.ptr b i' 0), []⟩ :=
  opL_pure fun st' cx a w ha hr => by
    obtain ⟨e2, w2⟩ := evv h2 hy ha (by simp [Op.operands]) hr
    obtain ⟨-, h4⟩ := evc h1 hx ha (by simp [Op.operands]) hr
    have hb' : st'.h b = some (.row e rows mu) := by rw [ha.2 b (by simp)]; exact hb
    obtain ⟨a', cap, h5, h6, h7, h8, h9⟩ := h4 _ hb'
    rcases h9 with h9 | ⟨g, c, el', fz, h9, rfl, h11, h12⟩
    · omega
    · simp only [Bk.e] at h5 h12
      refine ⟨.pointer (some ⟨g, off * e + j * e, none⟩), ?_, .inr rfl, fun bk2 h13 => ?_⟩
      · subst hn
        simp only [execOp, h5, e2, Sem.run_bind, run_index_slice ht hk hel hj, he, Result.andThen_ok, Sem.run_pure]
      · rw [hb'] at h13; cases h13
        refine ⟨g, 0, h9, ?_⟩
        simp only [Bk.e, ← hi, Nat.zero_add, Nat.add_zero, Nat.add_mul]
theorem opL_index_arr {x y : Operand} {t el i q q' len : Nat} {b : Bid} {k : IntKind} {n : Int} {j : Nat} {tt te : TE} (h1 : st.ev x = .c (.ptr b i q)) (hb : (st.h b).isSome = true) (h2 : st.ev y = .c (.p (.v (.int k n)))) (hn : n = (j : Int)) (hj : j < len)
    (ht : lkN T.ty t = some tt) (hk : tt.kd = .array len el) (hel : lkN T.ty el = some te) (hi : q + j * te.size = q') (hx : okC x = true) (hy : okC y = true) :
    OpL E N P ops ⟨some d, .indexAddr t x y, ty, pos, af, gd⟩ st ⟨[b], []⟩ ⟨.c (.ptr b i q'), []⟩ :=
  opL_pure fun st' cx a w ha hr => by
    obtain ⟨e2, w2⟩ := evv h2 hy ha (by simp [Op.operands]) hr
    obtain ⟨-, h4⟩ := evc h1 hx ha (by simp [Op.operands]) hr
    obtain ⟨bk, hbk⟩ := Option.isSome_iff_exists.1 hb
    have hb' : st'.h b = some bk := by rw [ha.2 b (by simp)]; exact hbk
    obtain ⟨g, qq, h5, h6⟩ := h4 _ hb'
    refine ⟨.pointer (some ⟨g, qq + i * bk.e + q', none⟩), ?_, .inr rfl, fun bk2 h7 => ?_⟩
    · subst hn
      simp only [execOp, h6, e2, Sem.run_bind, Instr.indexAt, asIntOf, Sem.run_pure, Result.andThen_ok, run_und (kd_array ht hk), Instr.sureAddr]
      rw [if_pos (by omega)]
      simp only [Sem.run_bind, run_sizeT (T.ok _ _ hel), Result.andThen_ok, Sem.run_pure, addr_add, Int.toNat_natCast, ← hi, Nat.add_assoc]
    · rw [hb'] at h7; cases h7
      exact ⟨g, qq, h5, rfl⟩
theorem opL_index_str {x y : Operand} {t : Nat} {s : ByteArray} {k : IntKind} {n : Int} {j : Nat} {b : UInt8} {tt : TE} (h1 : st.ev x = .c (.p (.v (.string s)))) (h2 : st.ev y = .c (.p (.v (.int k n)))) (hn : n = (j : Int)) (hj : s[j]? = some b)
    (ht : lkN T.ty t = some tt) (hk : tt.kd = .string) (hx : okC x = true) (hy : okC y = true) : OpL E N P ops ⟨some d, .index t x y, ty, pos, af, gd⟩ st ⟨[], []⟩ ⟨.c (.p (.v (.int .u8 b.toNat))), []⟩ :=
  opL_pure fun st' cx a w ha hr => by
    obtain ⟨e2, w2⟩ := evv h2 hy ha (by simp [Op.operands]) hr
    obtain ⟨e1, w1⟩ := evv h1 hx ha (by simp [Op.operands]) hr
    have hwf : atomB (.int .u8 b.toNat) = true := by
      have := b.toNat_lt
      simp [atomB, Lit.wf, IntKind.min, IntKind.max, IntKind.signed, IntKind.bits]; omega
    refine ⟨.int .u8 b.toNat, ?_, .inr rfl, .v _ hwf⟩
    subst hn
    simp only [execOp, e1, e2, Sem.run_bind, Instr.index, asIntOf, Sem.run_pure, Result.andThen_ok, run_und (kd_string ht hk), Int.toNat_natCast]
    rw [if_pos (by omega), hj]
    simp only [Sem.run_pure, Result.andThen_ok, Sem.run_bind]
end
end Go.Proofs.Ythlaenafkihjiaa
/- Operations over abstract worlds, third part: lengths, parts of slices and strings, strings of bytes, parts of aggregates. Conditions: those of the operations. -/
namespace Go.Proofs.Ythlaenafkihjiaa
open Go.RowKit
set_option linter.unusedVariables false
set_option linter.unusedSimpArgs false
section
variable {E : En} {N : Nat} {P : Program} {T : Tb P} {ops : Array Oper} {o : Oper} {st : St} {d : Nat} {ty : Nat} {pos : String} {af : Array Edge} {gd : Option (Nat × Bool)}
theorem run_builtin {b : Builtin} {args : Array Operand} {ats : Array TypeId} {a : Act} {w : World} : ∃ cs, (execOp a.eval ⟨some d, .call { callee := .builtin b, args := args, argTypes := ats }, ty, pos, af, gd⟩).run P w =
    (builtin b ats ty cs (args.map a.eval)).run P w := by
  refine ⟨args.map (fun x => match x with | .const _ => true | _ => false), ?_⟩
  simp only [execOp, resolve, invoke, Sem.run_bind, Sem.run_pure, Result.andThen_ok]
  rfl
theorem run_len_slice {t e : TypeId} {tt : TE} {a : Option Addr} {n cap : Nat} {w : World} {ty : TypeId} (ht : lkN T.ty t = some tt) (hk : tt.kd = .slice e) : (Builtin.len_ #[t] ty #[.slice a n cap]).run P w = .ok (.int .i64 n) w := by
  simp [Builtin.len_, Sem.run_bind, run_und (kd_slice ht hk), Result.andThen_ok, Sem.run_pure, goInt]
theorem wf_len {n : Nat} (h : n ≤ maxLen) : (Lit.int .i64 n).wf = true := by
  unfold maxLen at h
  simp [Lit.wf, IntKind.min, IntKind.max, IntKind.signed, IntKind.bits]; omega
theorem opL_len_l {x : Operand} {t e : TypeId} {tt : TE} {k : Nat} {rows : List (List PV)} (h1 : st.ev x = .c (.p (.l k rows))) (ht : lkN T.ty t = some tt) (hk : tt.kd = .slice e) (hx : okC x = true) :
    OpL E N P ops ⟨some d, .call { callee := .builtin .len, args := #[x], argTypes := #[t] }, ty, pos, af, gd⟩ st ⟨[], []⟩ ⟨.c (.p (.v (.int .i64 rows.length))), []⟩ :=
  opL_pure fun st' cx a w ha hr => by
    obtain ⟨-, h4⟩ := evc h1 hx ha (by simp [Op.operands, Call.operands]) hr
    revert h4
    generalize hz : a.eval x = z
    intro h4
    cases h4 with
    | l e' rows a' cap c q1 q2 q3 q4 q5 =>
      refine ⟨.int .i64 rows.length, ?_, .inr rfl, .v _ (wf_len (by omega))⟩
      obtain ⟨bc, hbc⟩ := run_builtin (P := P) (d := d) (ty := ty) (pos := pos) (af := af) (gd := gd) (w := w)
      rw [hbc]
      simp only [List.map_toArray, List.map_cons, List.map_nil, hz, builtin, Sem.run_bind, run_len_slice ht hk, Result.andThen_ok, Sem.run_pure]
theorem opL_len_nil {x : Operand} {t e : TypeId} {tt : TE} (h1 : st.ev x = .c (.p (.v (.slice none 0 0)))) (ht : lkN T.ty t = some tt) (hk : tt.kd = .slice e) (hx : okC x = true) :
    OpL E N P ops ⟨some d, .call { callee := .builtin .len, args := #[x], argTypes := #[t] }, ty, pos, af, gd⟩ st ⟨[], []⟩ ⟨.c (.p (.v (.int .i64 (0 : Nat)))), []⟩ :=
  opL_pure fun st' cx a w ha hr => by
    obtain ⟨e1, w1⟩ := evv h1 hx ha (by simp [Op.operands, Call.operands]) hr
    refine ⟨.int .i64 (0 : Nat), ?_, .inr rfl, .v _ rfl⟩
    obtain ⟨bc, hbc⟩ := run_builtin (P := P) (d := d) (ty := ty) (pos := pos) (af := af) (gd := gd) (w := w)
    rw [hbc]
    simp only [List.map_toArray, List.map_cons, List.map_nil, e1, builtin, Sem.run_bind, run_len_slice ht hk, Result.andThen_ok, Sem.run_pure]
theorem opL_len_sl {x : Operand} {t e : TypeId} {tt : TE} {b : Bid} {off n : Nat} (h1 : st.ev x = .c (.sl b off n)) (hb : (st.h b).isSome = true) (ht : lkN T.ty t = some tt) (hk : tt.kd = .slice e) (hx : okC x = true) :
    OpL E N P ops ⟨some d, .call { callee := .builtin .len, args := #[x], argTypes := #[t] }, ty, pos, af, gd⟩ st ⟨[b], []⟩ ⟨.c (.p (.v (.int .i64 n))), []⟩ :=
  opL_pure fun st' cx a w ha hr => by
    obtain ⟨-, h4⟩ := evc h1 hx ha (by simp [Op.operands, Call.operands]) hr
    obtain ⟨bk, hbk⟩ := Option.isSome_iff_exists.1 hb
    have hb' : st'.h b = some bk := by rw [ha.2 b (by simp)]; exact hbk
    obtain ⟨a', cap, h5, h6, h7, h8, h9⟩ := h4 _ hb'
    refine ⟨.int .i64 n, ?_, .inr rfl, .v _ (wf_len (by omega))⟩
    obtain ⟨bc, hbc⟩ := run_builtin (P := P) (d := d) (ty := ty) (pos := pos) (af := af) (gd := gd) (w := w)
    rw [hbc]
    simp only [List.map_toArray, List.map_cons, List.map_nil, h5, builtin, Sem.run_bind, run_len_slice ht hk, Result.andThen_ok, Sem.run_pure]
theorem opL_len_str {x : Operand} {t : TypeId} {tt : TE} {s : ByteArray} (h1 : st.ev x = .c (.p (.v (.string s)))) (ht : lkN T.ty t = some tt) (hk : tt.kd = .string) (hx : okC x = true) :
    OpL E N P ops ⟨some d, .call { callee := .builtin .len, args := #[x], argTypes := #[t] }, ty, pos, af, gd⟩ st ⟨[], []⟩ ⟨.c (.p (.v (.int .i64 s.size))), []⟩ :=
  opL_pure fun st' cx a w ha hr => by
    obtain ⟨e1, w1⟩ := evv h1 hx ha (by simp [Op.operands, Call.operands]) hr
    have hs : s.size ≤ maxLen := of_decide_eq_true w1
    refine ⟨.int .i64 s.size, ?_, .inr rfl, .v _ (wf_len hs)⟩
    obtain ⟨bc, hbc⟩ := run_builtin (P := P) (d := d) (ty := ty) (pos := pos) (af := af) (gd := gd) (w := w)
    rw [hbc]
    simp [List.map_toArray, List.map_cons, List.map_nil, e1, builtin, Sem.run_bind, Builtin.len_, run_und (kd_string ht hk), Result.andThen_ok, Sem.run_pure, goInt]
theorem opL_min {x y : Operand} {t1 t2 : TypeId} {k : IntKind} {a b n : Int} (h1 : st.ev x = .c (.p (.v (.int k a)))) (h2 : st.ev y = .c (.p (.v (.int k b)))) (hn : (if b < a then b else a) = n) (hx : okC x = true) (hy : okC y = true) :
    OpL E N P ops ⟨some d, .call { callee := .builtin .min, args := #[x, y], argTypes := #[t1, t2] }, ty, pos, af, gd⟩ st ⟨[], []⟩ ⟨.c (.p (.v (.int k n))), []⟩ :=
  opL_pure fun st' cx a' w ha hr => by
    obtain ⟨e1, w1⟩ := evv h1 hx ha (by simp [Op.operands, Call.operands]) hr
    obtain ⟨e2, w2⟩ := evv h2 hy ha (by simp [Op.operands, Call.operands]) hr
    have hwf : atomB (.int k n) = true := by rw [← hn]; split <;> assumption
    refine ⟨.int k n, ?_, .inr rfl, .v _ hwf⟩
    obtain ⟨bc, hbc⟩ := run_builtin (P := P) (d := d) (ty := ty) (pos := pos) (af := af) (gd := gd) (w := w)
    rw [hbc]
    simp [List.map_toArray, List.map_cons, List.map_nil, e1, e2, builtin, Sem.run_bind, Builtin.min_, Builtin.min2, Result.andThen_ok, Sem.run_pure, hn]
theorem opL_max {x y : Operand} {t1 t2 : TypeId} {k : IntKind} {a b n : Int} (h1 : st.ev x = .c (.p (.v (.int k a)))) (h2 : st.ev y = .c (.p (.v (.int k b)))) (hn : (if b > a then b else a) = n) (hx : okC x = true) (hy : okC y = true) :
    OpL E N P ops ⟨some d, .call { callee := .builtin .max, args := #[x, y], argTypes := #[t1, t2] }, ty, pos, af, gd⟩ st ⟨[], []⟩ ⟨.c (.p (.v (.int k n))), []⟩ :=
  opL_pure fun st' cx a' w ha hr => by
    obtain ⟨e1, w1⟩ := evv h1 hx ha (by simp [Op.operands, Call.operands]) hr
    obtain ⟨e2, w2⟩ := evv h2 hy ha (by simp [Op.operands, Call.operands]) hr
    have hwf : atomB (.int k n) = true := by rw [← hn]; split <;> assumption
    refine ⟨.int k n, ?_, .inr rfl, .v _ hwf⟩
    obtain ⟨bc, hbc⟩ := run_builtin (P := P) (d := d) (ty := ty) (pos := pos) (af := af) (gd := gd) (w := w)
    rw [hbc]
    simp [List.map_toArray, List.map_cons, List.map_nil, e1, e2, builtin, Sem.run_bind, Builtin.max_, Builtin.max2, Result.andThen_ok, Sem.run_pure, hn]
/- Parts of slices and strings. -/
/-- A bound of a slice expression. -/
def Bd (st : St) : Option Operand → Nat → Nat → Prop
  | none, dflt, n => n = dflt
  | some x, _, n => okC x = true ∧ ∃ k z, st.ev x = .c (.p (.v (.int k z))) ∧ z = (n : Int)
theorem bd_run {x : Option Operand} {dflt n : Nat} {f : Fp} {st' : St} {cx : Cx} {a : Act} {w : World} (h : Bd st x dflt n) (ha : Agree ops o f st st') (hm : ∀ y, x = some y → y ∈ o.op.operands.toList) (hr : Rel E N cx st' a w) :
    (x = none ∧ n = dflt) ∨ ∃ y k, x = some y ∧ a.eval y = .int k n := by
  cases x with
  | none => exact .inl ⟨rfl, h⟩
  | some y =>
    obtain ⟨hc, k, z, h1, rfl⟩ := h
    exact .inr ⟨y, k, rfl, (evv h1 hc ha (hm y rfl) hr).1⟩
theorem run_bounds {sl : Bool} {len cap lo hi : Nat} {a : Act} {x y : Option Operand} {w : World} (hx : (x = none ∧ lo = 0) ∨ ∃ z k, x = some z ∧ a.eval z = .int k lo) (hy : (y = none ∧ hi = len) ∨ ∃ z k, y = some z ∧ a.eval z = .int k hi) (h1 : lo ≤ hi) (h2 : hi ≤ cap) :
    (Instr.sliceBounds sl len cap (x.map a.eval) (y.map a.eval) none).run P w = .ok (lo, hi, cap) w := by
  have hb : ∀ (k : IntKind) (n m : Nat) (c : BoundsCode), n ≤ m → (Instr.sliceBound (.int k n) m c).run P w = .ok n w := by
    intro k n m c h
    simp only [Instr.sliceBound, asIntOf, Sem.run_bind, Sem.run_pure, Result.andThen_ok]
    rw [if_pos (by omega)]
    simp [Sem.run_pure]
  rcases hx with ⟨rfl, rfl⟩ | ⟨z, k, rfl, hz⟩ <;> rcases hy with ⟨rfl, rfl⟩ | ⟨z', k', rfl, hz'⟩ <;>
    simp [Instr.sliceBounds, Sem.run_bind, Sem.run_pure, Result.andThen_ok, hb, h1, h2, *]
theorem rp_part {w : World} {A : Nat → Prop} {e : Nat} {rows : List (List PV)} {a : Option Addr} {cap lo hi : Nat} (h : RP w A (.l e rows) (.slice a rows.length cap)) (h1 : lo ≤ hi) (h2 : hi ≤ rows.length) :
    RP w A (.l e ((rows.take hi).drop lo)) (.slice (if cap = lo then a else a.map (·.add (lo * e))) (hi - lo) (cap - lo)) := by
  have hlen : ((rows.take hi).drop lo).length = hi - lo := by rw [List.length_drop, List.length_take]; omega
  cases h with
  | l e rows a cap c q1 q2 q3 q4 q5 =>
    have hat : ∀ (i : Nat) (r : List PV), ((rows.take hi).drop lo)[i]? = some r → rows[lo + i]? = some r := by
      intro i r hi'
      rw [List.getElem?_drop, List.getElem?_take] at hi'
      split at hi'
      · exact hi'
      · cases hi'
    have key := RP.l (w := w) (A := A) e ((rows.take hi).drop lo) (if cap = lo then a else a.map (·.add (lo * e))) (cap - lo) (fun i k => c (lo + i) k) (by omega) (by omega)
      (fun r hr => q3 r (List.mem_of_mem_take (List.mem_of_mem_drop hr))) ?_ (fun i r k p hi' hk => q5 (lo + i) r k p (hat i r hi') hk)
    · rw [hlen] at key; exact key
    · by_cases hc : cap = lo
      · left
        apply List.eq_nil_of_length_eq_zero
        omega
      · rcases q4 with rfl | ⟨g, off, rfl, hg, hl, hcell⟩
        · left; simp
        · right
          rw [if_neg hc]
          refine ⟨g, off + lo * e, by simp [addr_add], hg, hl, fun i r k p hi' hk => ?_⟩
          rw [← hcell (lo + i) r k p (hat i r hi') hk, Nat.add_mul]
          congr 2
          omega
theorem opL_slice_l {x : Operand} {y z : Option Operand} {t el e lo hi : Nat} {rows : List (List PV)} {tt te : TE} (h1 : st.ev x = .c (.p (.l e rows))) (hlo : Bd st y 0 lo) (hhi : Bd st z rows.length hi) (hlh : lo ≤ hi) (hhl : hi ≤ rows.length)
    (ht : lkN T.ty t = some tt) (hk : tt.kd = .slice el) (hel : lkN T.ty el = some te) (he : te.size = e) (hx : okC x = true) :
    OpL E N P ops ⟨some d, .slice t x y z none, ty, pos, af, gd⟩ st ⟨[], []⟩ ⟨.c (.p (.l e ((rows.take hi).drop lo))), []⟩ :=
  opL_pure fun st' cx a w ha hr => by
    obtain ⟨-, h4⟩ := evc h1 hx ha (by simp [Op.operands]) hr
    have b1 := bd_run hlo ha (fun y hy => by subst hy; simp [Op.operands]) hr
    have b2 := bd_run hhi ha (fun y hy => by subst hy; simp [Op.operands]) hr
    revert h4
    generalize hz : a.eval x = v
    intro h4
    have hsh : ∃ a' cap, v = .slice a' rows.length cap ∧ rows.length ≤ cap := by cases h4 with | l e rows a' cap c q1 q2 q3 q4 q5 => exact ⟨a', cap, rfl, q1⟩
    obtain ⟨a', cap, rfl, hcap⟩ := hsh
    have hbd := run_bounds (P := P) (sl := true) (len := rows.length) (cap := cap) (w := w) b1 b2 hlh (by omega)
    refine ⟨_, ?_, .inr ?_, rp_part h4 hlh hhl⟩
    · simp only [execOp, hz, Sem.run_bind, Instr.sliceAt, run_und (kd_slice ht hk), Result.andThen_ok, Instr.slice, Option.map_none, hbd, run_sizeT (T.ok _ _ hel), he, Sem.run_pure]
    · rfl
theorem opL_slice_sl {x : Operand} {y z : Option Operand} {t el e lo hi off n off' n' : Nat} {b : Bid} {rows : List (List PV)} {mu : Bool} {tt te : TE} (h1 : st.ev x = .c (.sl b off n)) (hb : st.h b = some (.row e rows mu)) (hlo : Bd st y 0 lo) (hhi : Bd st z n hi) (hlh : lo ≤ hi) (hhl : hi ≤ n)
    (ht : lkN T.ty t = some tt) (hk : tt.kd = .slice el) (hel : lkN T.ty el = some te) (he : te.size = e) (ho : off + lo = off') (hn : hi - lo = n') (hx : okC x = true) :
    OpL E N P ops ⟨some d, .slice t x y z none, ty, pos, af, gd⟩ st ⟨[b], []⟩ ⟨.c (.sl b off' n'), []⟩ :=
  opL_pure fun st' cx a w ha hr => by
    obtain ⟨-, h4⟩ := evc h1 hx ha (by simp [Op.operands]) hr
    have b1 := bd_run hlo ha (fun y hy => by subst hy; simp [Op.operands]) hr
    have b2 := bd_run hhi ha (fun y hy => by subst hy; simp [Op.operands]) hr
    have hb' : st'.h b = some (.row e rows mu) := by rw [ha.2 b (by simp)]; exact hb
    obtain ⟨a', cap, h5, h6, h7, h8, h9⟩ := h4 _ hb'
    have hbd := run_bounds (P := P) (sl := true) (len := n) (cap := cap) (w := w) b1 b2 hlh (by omega)
    refine ⟨.slice (if cap = lo then a' else a'.map (·.add (lo * e))) (hi - lo) (cap - lo), ?_, .inr rfl, fun bk2 h10 => ?_⟩
    · simp only [execOp, h5, Sem.run_bind, Instr.sliceAt, run_und (kd_slice ht hk), Result.andThen_ok, Instr.slice, Option.map_none, hbd, run_sizeT (T.ok _ _ hel), he, Sem.run_pure]
    · rw [hb'] at h10; cases h10
      refine ⟨_, cap - lo, by rw [← hn], by omega, by omega, by simp only [Bk.len] at h8 ⊢; omega, ?_⟩
      by_cases hc : cap = lo
      · left; omega
      · rcases h9 with h9 | ⟨g, c, el', fz, h9, rfl, h11, h12⟩
        · exact absurd (show cap = lo by omega) hc
        · right
          rw [if_neg hc]
          refine ⟨g, c, el', fz, h9, ?_, h11, ?_⟩
          · simp only [Option.map_some, addr_add, Bk.e, ← ho, Nat.add_mul]
          · simp only [Bk.e] at h12 ⊢
            intro he
            rw [h12 he]
            congr 1
            omega
theorem opL_slice_str {x : Operand} {y z : Option Operand} {t lo hi : Nat} {s : ByteArray} {tt : TE} (h1 : st.ev x = .c (.p (.v (.string s)))) (hlo : Bd st y 0 lo) (hhi : Bd st z s.size hi) (hlh : lo ≤ hi) (hhl : hi ≤ s.size)
    (ht : lkN T.ty t = some tt) (hk : tt.kd = .string) (hx : okC x = true) :
    OpL E N P ops ⟨some d, .slice t x y z none, ty, pos, af, gd⟩ st ⟨[], []⟩ ⟨.c (.p (.v (.string (s.extract lo hi)))), []⟩ :=
  opL_pure fun st' cx a w ha hr => by
    obtain ⟨e1, w1⟩ := evv h1 hx ha (by simp [Op.operands]) hr
    have b1 := bd_run hlo ha (fun y hy => by subst hy; simp [Op.operands]) hr
    have b2 := bd_run hhi ha (fun y hy => by subst hy; simp [Op.operands]) hr
    have hs : s.size ≤ maxLen := of_decide_eq_true w1
    have hwf : atomB (.string (s.extract lo hi)) = true := by simp [atomB, ByteArray.size_extract]; omega
    refine ⟨.string (s.extract lo hi), ?_, .inr rfl, .v _ hwf⟩
    simp [execOp, e1, Sem.run_bind, Instr.sliceAt, run_und (kd_string ht hk), Result.andThen_ok, Instr.slice, run_bounds (P := P) (sl := false) (w := w) b1 b2 hlh hhl, Sem.run_pure]
/- Strings of bytes. -/
/-- Rows of one integer each. -/
def iR (k : IntKind) (l : List Int) : List (List PV) := l.map fun n => [.v (.int k n)]
theorem iR_len (k : IntKind) (l : List Int) : (iR k l).length = l.length := by simp [iR]
theorem iR_at {k : IntKind} {l : List Int} {i : Nat} (h : i < l.length) : (iR k l)[i]? = some [.v (.int k (gI l i))] := by simp [iR, h, gI_eq h]
theorem ints_of_rp {w : World} {A : Nat → Prop} {k : IntKind} {l : List Int} {v : Value} (h : RP w A (.l 1 (iR k l)) v) : Ints k w v l := by
  have hl := iR_len k l
  revert h
  generalize hR : iR k l = R
  intro h
  cases h with
  | l e rows a cap c q1 q2 q3 q4 q5 =>
    subst hR
    have hc : ∀ i, i < l.length → c i 0 = .int k (gI l i) ∧ (Lit.int k (gI l i)).wf = true := by
      intro i hi
      have := q5 i _ 0 (.v (.int k (gI l i))) (iR_at hi) rfl
      revert this
      generalize c i 0 = y
      intro this
      cases this with | v _ h => exact ⟨rfl, h⟩
    refine ⟨a, cap, by rw [hl], by omega, q2, ?_, ?_⟩
    · intro n hn
      obtain ⟨i, hi, rfl⟩ := List.getElem_of_mem hn
      have := (hc i hi).2
      rwa [gI_eq hi] at this
    · rcases q4 with q4 | ⟨g, off, rfl, hg, hlt, hcell⟩
      · left
        apply List.eq_nil_of_length_eq_zero
        rw [← hl, q4]; rfl
      · refine .inr ⟨g, off, rfl, hlt, fun i hi => ?_⟩
        have := hcell i _ 0 (.v (.int k (gI l i))) (iR_at hi) rfl
        rw [(hc i hi).1] at this
        simpa using this
theorem rp_of_ints {w : World} {A : Nat → Prop} {k : IntKind} {l : List Int} {v : Value} (h : Ints k w v l) (hA : ∀ a n cap g, v = .slice (some a) n cap → a.block = g → g < w.heap.size → A g) : RP w A (.l 1 (iR k l)) v := by
  obtain ⟨a, cap, rfl, h1, h2, h3, h4⟩ := h
  have key := RP.l (w := w) (A := A) 1 (iR k l) a cap (fun i _ => .int k (gI l i)) (by rw [iR_len]; exact h1) h2 (fun r hr => by simp only [iR, List.mem_map] at hr; obtain ⟨n, _, rfl⟩ := hr; rfl) ?_ ?_
  · rw [iR_len] at key; exact key
  · rcases h4 with rfl | ⟨g, off, rfl, hg, hc⟩
    · exact .inl rfl
    · refine .inr ⟨g, off, rfl, hA _ _ _ g rfl rfl hg, hg, fun i r k' p hi hk => ?_⟩
      have hlt := (List.getElem?_eq_some_iff.1 hi).1
      rw [iR_len] at hlt
      rw [iR_at hlt] at hi
      cases hi
      cases k' with
      | zero => simpa using hc i hlt
      | succ k' => simp at hk
  · intro i r k' p hi hk
    have hlt := (List.getElem?_eq_some_iff.1 hi).1
    rw [iR_len] at hlt
    rw [iR_at hlt] at hi
    cases hi
    cases k' with
    | zero =>
      simp at hk
      subst hk
      exact .v _ (h3 _ (gI_mem hlt))
    | succ k' => simp at hk
theorem ints_of_sl {cx : Cx} {w : World} {st : St} {b : Bid} {off n : Nat} {k : IntKind} {l : List Int} {mu : Bool} {v : Value} (hb : st.h b = some (.row 1 (iR k l) mu)) (hR : RB cx w st.h b (.row 1 (iR k l) mu)) (h : RC cx w st.h (.sl b off n) v) : Ints k w v ((l.drop off).take n) := by
  obtain ⟨a, cap, rfl, h1, h2, h3, h4⟩ := h _ hb
  simp only [Bk.len, iR_len] at h3
  simp only [Bk.e] at h4
  have hl : ((l.drop off).take n).length = n := by rw [List.length_take, List.length_drop]; omega
  obtain ⟨h5, h6, h7⟩ := hR
  rcases h4 with h4 | ⟨g, c, el, fz, h8, rfl, h9, h10⟩
  · have : n = 0 := by omega
    subst this
    refine ⟨a, cap, by simp, by simp, h2, by simp, .inl (by simp)⟩
  · rw [h8] at h7
    obtain ⟨-, c', el', fz', capR, h11, h12, h13, h14, h15, h16, h17⟩ := h7
    rw [h9] at h11
    cases h11
    have hat : ∀ i, i < n → c[off + i]? = some (.int k (gI ((l.drop off).take n) i)) ∧ (Lit.int k (gI ((l.drop off).take n) i)).wf = true := by
      intro i hi
      have e1 : gI ((l.drop off).take n) i = gI l (off + i) := by rw [gI_take hi, gI_drop]
      obtain ⟨cv, hcv, hp⟩ := h17 (off + i) _ 0 _ (iR_at (by omega)) rfl
      rw [e1]
      revert hcv
      cases hp with
      | v _ hwf =>
        intro hcv
        simp only [Nat.mul_one, Nat.add_zero] at hcv
        exact ⟨hcv, hwf⟩
    refine ⟨_, cap, by rw [hl], by omega, h2, ?_, .inr ⟨g, off * 1, rfl, (Array.getElem?_eq_some_iff.1 h9).1, fun i hi => ?_⟩⟩
    · intro x hx
      obtain ⟨i, hi, rfl⟩ := List.getElem_of_mem hx
      have := (hat i (by omega)).2
      rwa [gI_eq hi] at this
    · rw [hl] at hi
      rw [World.cell?, h9]
      simpa using (hat i hi).1
theorem opL_string_l {x : Operand} {s t e : TypeId} {ts te tt : TE} {rows : List (List PV)} {l : List Int} (h1 : st.ev x = .c (.p (.l 1 rows))) (hr' : rows = iR .u8 l) (hs : lkN T.ty s = some ts) (hsk : ts.kd = .slice e) (he : lkN T.ty e = some te) (hek : te.kd = .int .u8) (ht : lkN T.ty t = some tt) (htk : tt.kd = .string) (hx : okC x = true) :
    OpL E N P ops ⟨some d, .convert s t x, ty, pos, af, gd⟩ st ⟨[], []⟩ ⟨.c (.p (.v (.string (strOfNums l)))), []⟩ :=
  opL_pure fun st' cx a w ha hr => by
    obtain ⟨-, h4⟩ := evc h1 hx ha (by simp [Op.operands]) hr
    subst hr'
    have hI := ints_of_rp h4
    have hsz := hI.size
    have hwf : atomB (.string (strOfNums l)) = true := by
      have : (strOfNums l).size = l.length := by show (List.map _ l).toArray.size = _; simp
      simp only [atomB, decide_eq_true_eq, this]
      unfold maxLen; omega
    refine ⟨.string (strOfNums l), ?_, .inr rfl, .v _ hwf⟩
    simp only [execOp, Sem.run_bind, run_string (P := P) hI (kd_slice hs hsk) (kd_int he hek) (kd_string ht htk), Result.andThen_ok, Sem.run_pure]
theorem opL_string_sl {x : Operand} {s t e : TypeId} {ts te tt : TE} {b : Bid} {off n : Nat} {rows : List (List PV)} {mu : Bool} {l : List Int} (h1 : st.ev x = .c (.sl b off n)) (hb : st.h b = some (.row 1 rows mu)) (hr' : rows = iR .u8 l) (hs : lkN T.ty s = some ts) (hsk : ts.kd = .slice e) (he : lkN T.ty e = some te) (hek : te.kd = .int .u8) (ht : lkN T.ty t = some tt) (htk : tt.kd = .string) (hx : okC x = true) :
    OpL E N P ops ⟨some d, .convert s t x, ty, pos, af, gd⟩ st ⟨[b], []⟩ ⟨.c (.p (.v (.string (strOfNums ((l.drop off).take n))))), []⟩ :=
  opL_pure fun st' cx a w ha hr => by
    obtain ⟨-, h4⟩ := evc h1 hx ha (by simp [Op.operands]) hr
    subst hr'
    have hb' : st'.h b = some (.row 1 (iR .u8 l) mu) := by rw [ha.2 b (by simp)]; exact hb
    have hI := ints_of_sl hb' (hr.bl b _ hb') h4
    have hsz := hI.size
    have hwf : atomB (.string (strOfNums ((l.drop off).take n))) = true := by
      have : (strOfNums ((l.drop off).take n)).size = ((l.drop off).take n).length := by show (List.map _ _).toArray.size = _; simp
      simp only [atomB, decide_eq_true_eq, this]
      unfold maxLen; omega
    refine ⟨.string (strOfNums ((l.drop off).take n)), ?_, .inr rfl, .v _ hwf⟩
    simp only [execOp, Sem.run_bind, run_string (P := P) hI (kd_slice hs hsk) (kd_int he hek) (kd_string ht htk), Result.andThen_ok, Sem.run_pure]
end
end Go.Proofs.Ythlaenafkihjiaa
/- Operations over abstract worlds, fourth part: variables that are made and written. Conditions: those of the operations. -/
namespace Go.Proofs.Ythlaenafkihjiaa
open Go.RowKit
set_option linter.unusedVariables false
set_option linter.unusedSimpArgs false
theorem ap_h1 {t : TV} {b : Bid} {x : Option Bk} {o : Oper} {st : St} (b' : Bid) : (Ef.ap ⟨t, [(b, x)]⟩ o st).h b' = if b' = b then x else st.h b' := by
  unfold St.h Ef.ap
  simp only [List.cons_append, List.nil_append, lkB]
  by_cases h : b' = b
  · subst h
    rw [beqB_iff.2 rfl, if_pos rfl]; rfl
  · have : beqB b b' = false := by
      cases hb : beqB b b' with
      | false => rfl
      | true => exact absurd (beqB_iff.1 hb).symm h
    rw [this, if_neg h]
def Cx.upd (cx : Cx) (b : Bid) (x : Option (Nat × Nat)) : Cx := ⟨fun b' => if b' = b then x else cx.ι b', cx.A⟩
section
variable {E : En} {N : Nat} {P : Program} {T : Tb P} {ops : Array Oper} {o : Oper} {st : St} {d : Nat} {ty : Nat} {pos : String} {af : Array Edge} {gd : Option (Nat × Bool)} {cx : Cx} {a : Act} {w w' : World} {v : Value}
theorem ev_fresh {b : Bid} (h : FreshB b st) (x : Operand) : b ∉ (st.ev x).ment := by
  cases x with
  | tmp t => exact h.2.1 t
  | const v =>
    cases v with
    | agg cs =>
      intro hm
      simp only [St.ev, TV.ment, mentL, List.mem_flatMap, List.mem_map] at hm
      obtain ⟨c, ⟨y, _, rfl⟩, h2⟩ := hm
      simp [CV.ment] at h2
    | _ => simp [St.ev, TV.ment, CV.ment]
  | global g => simp [St.ev, TV.ment, CV.ment]
  | func g => simp [St.ev, TV.ment, CV.ment]
theorem keeps_push {A : Nat → Prop} {ob : Obj} (hh : w'.heap = w.heap.push ob) : Keeps A w w' := ⟨by rw [hh]; simp, fun g _ hg => by rw [hh, Array.getElem?_push_lt hg]; simp [hg]⟩
theorem push_old {ob : Obj} (hh : w'.heap = w.heap.push ob) {g : Nat} (hg : g < w.heap.size) : w'.heap[g]? = w.heap[g]? := by rw [hh, Array.getElem?_push_lt hg]; simp [hg]
theorem push_new {ob : Obj} (hh : w'.heap = w.heap.push ob) : w'.heap[w.heap.size]? = some ob := by rw [hh]; simp
/-- What was known of addresses stays known when a block is made. -/
theorem cmp_push {b b' : Bid} {bk : Bk} {t : TV} {ob : Obj} (hh : w'.heap = w.heap.push ob) (hne : b' ≠ b) : Cmp cx w st.h (cx.upd b (some (w.heap.size, 0))) w' (Ef.ap ⟨t, [(b, some bk)]⟩ o st).h b' := by
  intro bk' hb
  rw [ap_h1, if_neg hne] at hb
  refine ⟨bk', hb, rfl, Nat.le_refl _, by simp [Cx.upd, hne], fun g o c el fz _ h => ⟨c, el, fz, ?_, fun _ => rfl⟩⟩
  rw [push_old hh (Array.getElem?_eq_some_iff.1 h).1]; exact h
/-- A block is made. -/
theorem upd_pin {b : Bid} {x : Option (Nat × Nat)} (hb : b.1 < 65536) : (cx.upd b x).ι pinB = cx.ι pinB := by
  simp only [Cx.upd]
  rw [if_neg]
  rintro rfl
  simp [pinB] at hb
theorem step_alloc (hr : Rel E N cx st a w) (hd : ∀ d, o.dst = some d → d < N) {b : Bid} (hb0 : b.1 < N) (hf : FreshB b st) {ob : Obj} (hh : w'.heap = w.heap.push ob) (hos : w'.os = w.os) (htp : w'.tape = w.tape) (hou : w'.output = w.output) {bk : Bk} {t : TV}
    (hRB : RB (cx.upd b (some (w.heap.size, 0))) w' (Ef.ap ⟨t, [(b, some bk)]⟩ o st).h b bk) (hRT : RT (cx.upd b (some (w.heap.size, 0))) w' (Ef.ap ⟨t, [(b, some bk)]⟩ o st).h t v) :
    Rel E N (cx.upd b (some (w.heap.size, 0))) (Ef.ap ⟨t, [(b, some bk)]⟩ o st) (a.put o.dst v) w' := by
  refine hr.step (ef := ⟨t, [(b, some bk)]⟩) hd [b] (fun b' hb' => by rw [List.mem_singleton.1 hb']; exact hf) (fun _ h => h) (fun _ h => .inl h) (keeps_push hh) (fun g hg _ => push_old hh (Nat.lt_of_lt_of_le hg hr.sz)) hos htp hou ?_ ?_ ?_ ?_ hRT (upd_pin (Nat.lt_of_lt_of_le hb0 hr.hN))
  · intro b' hb'
    exact cmp_push hh (by simpa using hb')
  · intro b' bk' hb'
    by_cases e : b' = b
    · subst e
      rw [ap_h1, if_pos rfl] at hb'
      cases hb'
      exact .inr hRB
    · rw [ap_h1, if_neg e] at hb'
      refine .inl ⟨by simpa using e, hb', by simp [Cx.upd, e], fun g o hg => ⟨push_old hh (hr.own b' g o (by rw [hb']; simp) hg).1, fun h => h⟩⟩
  · intro b1 b2 g o g' o' h1 h2 h3 h4 hne
    rw [ap_h1] at h1 h2
    simp only [Cx.upd] at h3 h4
    by_cases e1 : b1 = b <;> by_cases e2 : b2 = b
    · exact absurd (e1.trans e2.symm) hne
    · rw [if_pos e1] at h3; rw [if_neg e2] at h2 h4
      cases h3
      have := (hr.own b2 g' o' h2 h4).1
      omega
    · rw [if_neg e1] at h1 h3; rw [if_pos e2] at h4
      cases h4
      have := (hr.own b1 g o h1 h3).1
      omega
    · rw [if_neg e1] at h1 h3; rw [if_neg e2] at h2 h4
      exact hr.inj b1 b2 g o g' o' h1 h2 h3 h4 hne
  · intro b1 g o h1 h2
    rw [ap_h1] at h1
    simp only [Cx.upd] at h2
    by_cases e1 : b1 = b
    · rw [if_pos e1] at h2
      cases h2
      exact ⟨by rw [hh]; simp, .inl hr.sz⟩
    · rw [if_neg e1] at h1 h2
      obtain ⟨h3, h4⟩ := hr.own b1 g o h1 h2
      exact ⟨by rw [hh]; simp; omega, h4⟩
/-- The cells of a value. -/
def TV.cells : TV → List CV
  | .c x => [x]
  | .agg cs => cs
  | .tup _ => []
def TV.known : TV → Bool
  | .c .any => false
  | .tup _ => false
  | _ => true
theorem cells_of {h : Bid → Option Bk} {t : TV} (hk : t.known = true) (hr : RT cx w h t v) : RL cx w h t.cells v.cells := by
  cases t with
  | c x =>
    obtain ⟨h1, h2⟩ := hr
    have h3 : v.oneCell' = true := by
      rcases h1 with rfl | h1
      · cases hk
      · exact h1
    have h4 : v.cells = #[v] := by cases v <;> simp_all [Value.cells, Value.oneCell']
    rw [h4]
    refine ⟨rfl, fun i c hi => ?_⟩
    cases i with
    | zero => simp [TV.cells] at hi; subst hi; exact ⟨v, rfl, h3, h2⟩
    | succ i => simp [TV.cells] at hi
  | agg cs => obtain ⟨vs, rfl, h⟩ := hr; exact h
  | tup ts => cases hk
theorem step_box (hr : Rel E N cx st a w) (hd : ∀ d, o.dst = some d → d < N) {b : Bid} (hb0 : b.1 < N) (hf : FreshB b st) {cells : Array Value} {el : TypeId} {cs : List CV} (hh : w'.heap = w.heap.push (.cells cells el)) (hos : w'.os = w.os) (htp : w'.tape = w.tape) (hou : w'.output = w.output)
    (hcs : RL cx w st.h cs cells) (hm : b ∉ mentL cs) : Rel E N (cx.upd b (some (w.heap.size, 0))) (Ef.ap ⟨.c (.ptr b 0 0), [(b, some (.box cs))]⟩ o st) (a.put o.dst (.pointer (some ⟨w.heap.size, 0, none⟩))) w' := by
  refine step_alloc hr hd hb0 hf hh hos htp hou ?_ ?_
  · refine ⟨w.heap.size, 0, cells, el, by simp [Cx.upd], push_new hh, fun h => ?_, by rw [hcs.1]; omega, fun k x hx => ?_⟩
    · have := (hr.A _ h).1; omega
    · obtain ⟨u, hu, h1, h2⟩ := hcs.2 k x hx
      have hne : ∀ b' ∈ x.ment, b' ≠ b := fun b' hb' e => hm (mentL_mem hx (by rw [← e]; exact hb'))
      exact ⟨u, by simpa using hu, h1, RC.tr (cx := cx) (w := w) (h := st.h) (fun _ h => h) (keeps_push hh) (fun b' hb' => cmp_push hh (hne b' hb')) h2⟩
  · refine ⟨.inr rfl, fun bk hbk => ⟨w.heap.size, 0, by simp [Cx.upd], ?_⟩⟩
    rw [ap_h1, if_pos rfl] at hbk
    cases hbk
    simp [Bk.e]
theorem ment_cells {t : TV} (h : t.known = true) : t.ment = mentL t.cells := by
  cases t with
  | c x => simp [TV.ment, TV.cells, mentL]
  | agg cs => rfl
  | tup ts => cases h
theorem opL_box {x : Operand} {el : TypeId} {t : TV} (hx : st.ev x = t) (hk : t.known = true) (hc : okC x = true) : OpL E N P ops ⟨some d, .box el x, ty, pos, af, gd⟩ st ⟨[], [(d, 0)]⟩ ⟨.c (.ptr (d, 0) 0 0), [((d, 0), some (.box t.cells))]⟩ := by
  intro st' ha hf hd cx a w Q hr
  have he := hr.ev hc
  rw [ev_agree ha (by simp [Op.operands]), hx] at he
  have hfr := hf (d, 0) (by simp)
  have hm := ev_fresh hfr x
  rw [ev_agree ha (by simp [Op.operands]), hx, ment_cells hk] at hm
  have hrl := cells_of hk he
  refine upon_ok (w' := { w with heap := w.heap.push (.cells (a.eval x).cells el) }) ?_ ⟨_, step_box hr hd (b := (d, 0)) (hd d rfl) hfr rfl rfl rfl rfl hrl hm⟩
  simp only [execOp, Sem.run_bind, Instr.box, newVar, newRow, newObj, Sem.run, Result.andThen_ok, Sem.run_pure]
theorem opL_alloc {el : TypeId} {te : TE} {zs : List Value} (he : lkN T.ty el = some te) (hz : te.zero.cells.toList = zs) (hat : zs.all atomB = true) : OpL E N P ops ⟨some d, .alloc el, ty, pos, af, gd⟩ st ⟨[], [(d, 0)]⟩ ⟨.c (.ptr (d, 0) 0 0), [((d, 0), some (.box (zs.map fun v => .p (.v v))))]⟩ := by
  intro st' ha hf hd cx a w Q hr
  have hfr := hf (d, 0) (by simp)
  refine upon_ok (w' := { w with heap := w.heap.push (.cells te.zero.cells el) }) ?_ ⟨_, step_box hr hd (b := (d, 0)) (hd d rfl) hfr rfl rfl rfl rfl ?_ ?_⟩
  · simp only [execOp, Sem.run_bind, Instr.alloc, run_zero (T.ok _ _ he), newVar, newRow, newObj, Sem.run, Result.andThen_ok, Sem.run_pure]
  · refine ⟨by rw [← hz]; simp, fun i c hi => ?_⟩
    rw [List.getElem?_map] at hi
    cases hu : zs[i]? with
    | none => rw [hu] at hi; cases hi
    | some u =>
      rw [hu] at hi
      cases hi
      have hau := List.all_eq_true.1 hat u (List.mem_of_getElem? hu)
      exact ⟨u, by rw [← hz] at hu; simpa using hu, atomB_one hau, .v _ hau⟩
  · intro hm
    simp only [mentL, List.mem_flatMap, List.mem_map] at hm
    obtain ⟨c, ⟨y, _, rfl⟩, h2⟩ := hm
    simp [CV.ment] at h2
/- Stores. -/
def setAt {α : Type} : List α → Nat → List α → List α
  | cs, 0, [] => cs
  | _ :: cs, 0, v :: vs => v :: setAt cs 0 vs
  | c :: cs, k + 1, vs => c :: setAt cs k vs
  | [], _, _ => []
theorem setAt_eq {α : Type} : ∀ (cs : List α) (k : Nat) (vs : List α), k + vs.length ≤ cs.length → setAt cs k vs = cs.take k ++ vs ++ cs.drop (k + vs.length)
  | cs, 0, [], _ => by cases cs <;> simp [setAt]
  | [], 0, v :: vs, h => by simp at h
  | c :: cs, 0, v :: vs, h => by
    simp only [setAt]
    rw [setAt_eq cs 0 vs (by simpa using h)]
    simp
  | [], k + 1, vs, h => by simp at h
  | c :: cs, k + 1, vs, h => by
    simp only [setAt]
    rw [setAt_eq cs k vs (by simp at h; omega)]
    simp [Nat.add_right_comm]
theorem setAt_len {α : Type} (cs : List α) (k : Nat) (vs : List α) (h : k + vs.length ≤ cs.length) : (setAt cs k vs).length = cs.length := by
  rw [setAt_eq cs k vs h]; simp; omega
theorem setAt_at {α : Type} (cs : List α) (k : Nat) (vs : List α) (h : k + vs.length ≤ cs.length) (i : Nat) : (setAt cs k vs)[i]? = if i < k ∨ k + vs.length ≤ i then cs[i]? else vs[i - k]? := by
  rw [setAt_eq cs k vs h, List.append_assoc, List.getElem?_append, List.getElem?_append]
  simp only [List.length_take]
  have hk : min k cs.length = k := by omega
  rw [hk]
  by_cases h1 : i < k
  · rw [if_pos h1, if_pos (.inl h1), List.getElem?_take, if_pos h1]
  · rw [if_neg h1]
    by_cases h2 : i - k < vs.length
    · rw [if_pos h2, if_neg (by omega)]
    · rw [if_neg h2, if_pos (by omega), List.getElem?_drop]
      congr 1
      omega
/-- A block is written. -/
theorem step_write (hr : Rel E N cx st a w) (hd : ∀ d, o.dst = some d → d < N) {b : Bid} {bk bk' : Bk} (hb : st.h b = some bk) (hbm : bk'.e = bk.e) (hbl : bk.len ≤ bk'.len) {g q : Nat} (hι : cx.ι b = some (g, q)) (hnA : ¬ cx.A g)
    {c c' : Array Value} {el : TypeId} (hg : w.heap[g]? = some (.cells c el (0, 0))) (hw : w' = w.setRow g c') (hs : c'.size = c.size) {t : TV}
    (hRB : RB cx w' (Ef.ap ⟨t, [(b, some bk')]⟩ o st).h b bk') (hRT : RT cx w' (Ef.ap ⟨t, [(b, some bk')]⟩ o st).h t v) : Rel E N cx (Ef.ap ⟨t, [(b, some bk')]⟩ o st) (a.put o.dst v) w' := by
  have hneq : ∀ g', g' ≠ g → w'.heap[g']? = w.heap[g']? := fun g' h => by rw [hw]; exact setRow_other w g g' c' h
  have hown := hr.own b g q (by rw [hb]; simp) hι
  refine hr.step (ef := ⟨t, [(b, some bk')]⟩) hd [] (fun b' hb' => by cases hb') (fun _ h => h) (fun _ h => .inl h) ⟨by rw [hw]; simp, fun g' hA _ => hneq g' (fun e => hnA (e ▸ hA))⟩ (fun g' hg' hM => hneq g' (fun e => ?_)) (by rw [hw]; rfl) (by rw [hw]; rfl) (by rw [hw]; rfl) ?_ ?_ ?_ ?_ hRT rfl
  · subst e
    rcases hown.2 with h | h
    · omega
    · exact hM h
  · intro b' _ bk2 hb2
    rw [ap_h1] at hb2
    by_cases e : b' = b
    · subst e
      rw [if_pos rfl] at hb2
      cases hb2
      refine ⟨bk, hb, hbm.symm, hbl, rfl, fun g1 o1 c1 el1 fz1 h1 h2 => ?_⟩
      rw [hι] at h1; cases h1
      rw [hg] at h2; cases h2
      exact ⟨c', el, (0, 0), by rw [hw]; exact setRow_heap w g c c' el _ hg, fun _ => hs⟩
    · rw [if_neg e] at hb2
      refine ⟨bk2, hb2, rfl, Nat.le_refl _, rfl, fun g1 o1 c1 el1 fz1 h1 h2 => ?_⟩
      have : g1 ≠ g := (hr.inj b' b g1 o1 g q (by rw [hb2]; simp) (by rw [hb]; simp) h1 hι e)
      exact ⟨c1, el1, fz1, by rw [hneq g1 this]; exact h2, fun _ => rfl⟩
  · intro b' bk2 hb2
    by_cases e : b' = b
    · subst e
      rw [ap_h1, if_pos rfl] at hb2
      cases hb2
      exact .inr hRB
    · rw [ap_h1, if_neg e] at hb2
      refine .inl ⟨by simp, hb2, rfl, fun g1 o1 h1 => ⟨hneq g1 (hr.inj b' b g1 o1 g q (by rw [hb2]; simp) (by rw [hb]; simp) h1 hι e), fun h => h⟩⟩
  · intro b1 b2 g1 o1 g2 o2 h1 h2
    rw [ap_h1] at h1 h2
    refine hr.inj b1 b2 g1 o1 g2 o2 ?_ ?_
    · by_cases e : b1 = b
      · rw [e, hb]; simp
      · rwa [if_neg e] at h1
    · by_cases e : b2 = b
      · rw [e, hb]; simp
      · rwa [if_neg e] at h2
  · intro b1 g1 o1 h1 h2
    have : st.h b1 ≠ none := by
      rw [ap_h1] at h1
      by_cases e : b1 = b
      · rw [e, hb]; simp
      · rwa [if_neg e] at h1
    obtain ⟨h3, h4⟩ := hr.own b1 g1 o1 this h2
    exact ⟨by rw [hw]; simpa using h3, h4⟩
theorem run_storeVar {t : TypeId} {te : TE} {g q : Nat} {u : Value} {c : Array Value} {el : TypeId} (ht : lkN T.ty t = some te) (hsz : u.cells.size = te.size) (hg : w.heap[g]? = some (.cells c el (0, 0))) (hb : q + u.cells.size ≤ c.size) (h1 : ∀ x ∈ u.cells.toList, x.oneCell' = true) :
    (storeVar t ⟨g, q, none⟩ u).run P w = .ok () (w.setRow g (c.toList.take q ++ u.cells.toList ++ c.toList.drop (q + u.cells.size)).toArray) := by
  unfold storeVar
  simp only [Sem.run_bind, run_sizeT (T.ok _ _ ht), Result.andThen_ok]
  rw [if_neg (by rw [hsz]; simp)]
  try simp only [Sem.run_bind, Sem.run_pure, Result.andThen_ok]
  have := run_storeCells_at P g q el u.cells.toList 0 c w hg (by simpa using hb) h1
  simpa using this
theorem rl_one {h : Bid → Option Bk} {cs : List CV} {vs : Array Value} (hr : RL cx w h cs vs) : ∀ x ∈ vs.toList, x.oneCell' = true := by
  intro x hx
  obtain ⟨i, hi, rfl⟩ := List.getElem_of_mem hx
  have hi' : i < cs.length := by rw [← hr.1]; simpa using hi
  obtain ⟨u, hu, h1, _⟩ := hr.2 i cs[i] (List.getElem?_eq_getElem hi')
  have : vs[i]? = some (vs.toList[i]) := by simp
  rw [this] at hu
  cases hu
  exact h1
/-- A store into a variable. -/
theorem opL_store_box {x y : Operand} {t : TypeId} {te : TE} {b : Bid} {k : Nat} {all all' : List CV} {v : TV} {dst : Option Nat} (hx : st.ev x = .c (.ptr b 0 k)) (hb : st.h b = some (.box all)) (hv : st.ev y = v) (hk : v.known = true) (ht : lkN T.ty t = some te) (hsz : v.cells.length = te.size) (hin : k + v.cells.length ≤ all.length)
    (hall : setAt all k v.cells = all') (hcx : okC x = true) (hcy : okC y = true) : OpL E N P ops ⟨dst, .store t x y, ty, pos, af, gd⟩ st ⟨[b], []⟩ ⟨.c .any, [(b, some (.box all'))]⟩ := by
  intro st' ha hf hd cx a w Q hr
  have he := hr.ev hcy
  rw [ev_agree ha (by simp [Op.operands]), hv] at he
  have hrl := cells_of hk he
  obtain ⟨-, h4⟩ := evc hx hcx ha (by simp [Op.operands]) hr
  have hb' : st'.h b = some (.box all) := by rw [ha.2 b (by simp)]; exact hb
  obtain ⟨g, q, h5, h6⟩ := h4 _ hb'
  obtain ⟨g', q', c, el, h7, h8, h9, h10, h11⟩ := hr.bl b _ hb'
  rw [h5] at h7
  cases h7
  have h6' : a.eval x = .pointer (some ⟨g, q + k, none⟩) := by simpa [Bk.e] using h6
  have hcl : (a.eval y).cells.size = v.cells.length := hrl.1
  have hrun := run_storeVar (w := w) (g := g) (q := q + k) (u := a.eval y) ht (by rw [hcl, hsz]) h8 (by omega) (rl_one hrl)
  refine upon_skip (w' := w.setRow g (c.toList.take (q + k) ++ (a.eval y).cells.toList ++ c.toList.drop (q + k + (a.eval y).cells.size)).toArray) (by
    simp only [execOp, h6', Sem.run_bind, Instr.storeAt, Instr.sureAddr, Sem.run_pure, Result.andThen_ok, hrun]) ⟨cx, ?_⟩
  have hlen : (c.toList.take (q + k) ++ (a.eval y).cells.toList ++ c.toList.drop (q + k + (a.eval y).cells.size)).toArray.size = c.size := by simp; omega
  have hcm : ∀ b', Cmp cx w st'.h cx (w.setRow g (c.toList.take (q + k) ++ (a.eval y).cells.toList ++ c.toList.drop (q + k + (a.eval y).cells.size)).toArray) (Ef.ap ⟨.c .any, [(b, some (.box all'))]⟩ ⟨dst, .store t x y, ty, pos, af, gd⟩ st').h b' := by
    intro b' bk2 hb2
    rw [ap_h1] at hb2
    by_cases e : b' = b
    · subst e
      rw [if_pos rfl] at hb2
      cases hb2
      refine ⟨_, hb', rfl, Nat.le_refl _, rfl, fun g1 o1 c1 el1 fz1 h1 h2 => ?_⟩
      rw [h5] at h1; cases h1
      rw [h8] at h2; cases h2
      exact ⟨_, el, (0, 0), setRow_heap w g c _ el _ h8, fun _ => hlen⟩
    · rw [if_neg e] at hb2
      refine ⟨bk2, hb2, rfl, Nat.le_refl _, rfl, fun g1 o1 c1 el1 fz1 h1 h2 => ?_⟩
      have : g1 ≠ g := (hr.inj b' b g1 o1 g q (by rw [hb2]; simp) (by rw [hb']; simp) h1 h5 e)
      exact ⟨c1, el1, fz1, by rw [setRow_other w g g1 _ this]; exact h2, fun _ => rfl⟩
  have hkeep : Keeps cx.A w (w.setRow g (c.toList.take (q + k) ++ (a.eval y).cells.toList ++ c.toList.drop (q + k + (a.eval y).cells.size)).toArray) := ⟨by simp, fun g' hA _ => setRow_other w g g' _ (fun e => h9 (e ▸ hA))⟩
  refine step_write (t := .c .any) (bk' := .box all') hr hd hb' rfl (Nat.le_refl _) h5 h9 h8 rfl hlen ⟨g, q, _, el, h5, setRow_heap w g c _ el _ h8, h9, ?_, fun j z hz => ?_⟩ ⟨.inl rfl, trivial⟩
  · rw [hlen, ← hall, setAt_len all k _ hin]; exact h10
  · rw [← hall, setAt_at all k _ hin] at hz
    have hidx : (c.toList.take (q + k) ++ (a.eval y).cells.toList ++ c.toList.drop (q + k + (a.eval y).cells.size)).toArray[q + j]? = if j < k ∨ k + v.cells.length ≤ j then c[q + j]? else (a.eval y).cells[j - k]? := by
      have h12 := setAt_eq c.toList (q + k) (a.eval y).cells.toList (by simp; omega)
      rw [show q + k + (a.eval y).cells.size = q + k + (a.eval y).cells.toList.length by simp, ← h12]
      rw [List.getElem?_toArray, setAt_at _ _ _ (by simp; omega)]
      simp only [Array.length_toList, hcl, Array.getElem?_toList]
      by_cases h13 : j < k ∨ k + v.cells.length ≤ j
      · rw [if_pos h13, if_pos (by omega)]
      · rw [if_neg h13, if_neg (by omega)]
        congr 1
        omega
    rw [hidx]
    split at hz
    · rename_i h13
      rw [if_pos h13]
      obtain ⟨cv, h14, h15, h16⟩ := h11 j z hz
      exact ⟨cv, h14, h15, h16.tr (fun _ h => h) hkeep fun b' _ => hcm b'⟩
    · rename_i h13
      rw [if_neg h13]
      obtain ⟨u, h14, h15, h16⟩ := hrl.2 (j - k) z hz
      exact ⟨u, h14, h15, h16.tr (fun _ h => h) hkeep fun b' _ => hcm b'⟩
end
end Go.Proofs.Ythlaenafkihjiaa
/- Operations over abstract worlds, fifth part: slices that are appended to, made and written. Conditions: those of the operations. -/
namespace Go.Proofs.Ythlaenafkihjiaa
open Go.RowKit
set_option linter.unusedVariables false
set_option linter.unusedSimpArgs false
/-- The values us are the cells of the rows. -/
def RowsR (w : World) (A : Nat → Prop) (e : Nat) (rows : List (List PV)) (us : List Value) : Prop :=
  us.length = rows.length * e ∧ (∀ r ∈ rows, r.length = e) ∧ ∀ (i : Nat) (r : List PV) (k : Nat) (p : PV), rows[i]? = some r → r[k]? = some p → ∃ u, us[i * e + k]? = some u ∧ RP w A p u
theorem RowsR.nil (w : World) (A : Nat → Prop) (e : Nat) : RowsR w A e [] [] := ⟨by simp, by simp, by simp⟩
theorem RowsR.app {w : World} {A : Nat → Prop} {e : Nat} {r1 r2 : List (List PV)} {u1 u2 : List Value} (h1 : RowsR w A e r1 u1) (h2 : RowsR w A e r2 u2) : RowsR w A e (r1 ++ r2) (u1 ++ u2) := by
  obtain ⟨a1, b1, c1⟩ := h1
  obtain ⟨a2, b2, c2⟩ := h2
  refine ⟨by rw [List.length_append, List.length_append, a1, a2, Nat.add_mul], fun r hr => ?_, fun i r k p hi hk => ?_⟩
  · rcases List.mem_append.1 hr with h | h
    · exact b1 r h
    · exact b2 r h
  · by_cases h : i < r1.length
    · rw [List.getElem?_append_left h] at hi
      obtain ⟨u, hu, hp⟩ := c1 i r k p hi hk
      exact ⟨u, by rw [List.getElem?_append_left (List.getElem?_eq_some_iff.1 hu).1]; exact hu, hp⟩
    · rw [List.getElem?_append_right (by omega)] at hi
      obtain ⟨u, hu, hp⟩ := c2 _ r k p hi hk
      refine ⟨u, ?_, hp⟩
      have : u1.length ≤ i * e + k := by
        have : r1.length * e ≤ i * e := Nat.mul_le_mul_right e (by omega)
        omega
      rw [List.getElem?_append_right this, a1]
      rw [← hu]
      congr 1
      rw [Nat.sub_mul]
      have : r1.length * e ≤ i * e := Nat.mul_le_mul_right e (by omega)
      omega
theorem RowsR.one {w : World} {A : Nat → Prop} {e : Nat} {rows : List (List PV)} {us : List Value} (he : 0 < e) (h : RowsR w A e rows us) : ∀ u ∈ us, u.oneCell' = true := by
  intro u hu
  obtain ⟨j, hj, rfl⟩ := List.getElem_of_mem hu
  obtain ⟨h1, h2, h3⟩ := h
  have hi : j / e < rows.length := by
    rw [Nat.div_lt_iff_lt_mul he]; omega
  have hk : j % e < e := Nat.mod_lt _ he
  have hr := h2 _ (List.getElem_mem hi)
  obtain ⟨u, hu2, hp⟩ := h3 (j / e) rows[j / e] (j % e) (rows[j / e][j % e]'(by omega)) (List.getElem?_eq_getElem hi) (List.getElem?_eq_getElem (by omega))
  rw [Nat.mul_comm, Nat.div_add_mod] at hu2
  rw [List.getElem?_eq_getElem hj] at hu2
  cases hu2
  exact hp.one
theorem RowsR.keeps {w w' : World} {A A' : Nat → Prop} {e : Nat} {rows : List (List PV)} {us : List Value} (h : RowsR w A e rows us) (hA : ∀ g, A g → A' g) (hk : Keeps A w w') : RowsR w' A' e rows us :=
  ⟨h.1, h.2.1, fun i r k p hi hk' => let ⟨u, hu, hp⟩ := h.2.2 i r k p hi hk'; ⟨u, hu, hp.keeps hA hk⟩⟩
/-- The cells of an immutable list. -/
theorem rows_of_rp {w : World} {A : Nat → Prop} {e : Nat} {rows : List (List PV)} {v : Value} (h : RP w A (.l e rows) v) : ∃ a cap us, v = .slice a rows.length cap ∧ rows.length ≤ cap ∧ cap ≤ maxLen ∧ RowsR w A e rows us ∧
    (rows = [] ∨ ∃ ad, a = some ad ∧ (0 < e → ∀ (j : Nat) (u : Value), us[j]? = some u → w.cell? (ad.add j) = some u)) := by
  cases h with
  | l e rows a cap c q1 q2 q3 q4 q5 =>
    by_cases he : 0 < e
    · refine ⟨a, cap, (List.range (rows.length * e)).map fun j => c (j / e) (j % e), rfl, q1, q2, ⟨by simp, q3, fun i r k p hi hk => ?_⟩, ?_⟩
      · have hil := (List.getElem?_eq_some_iff.1 hi).1
        have hkl := (List.getElem?_eq_some_iff.1 hk).1
        have hre := q3 r (List.mem_of_getElem? hi)
        refine ⟨c i k, ?_, q5 i r k p hi hk⟩
        have hlt : i * e + k < rows.length * e := by
          have : (i + 1) * e ≤ rows.length * e := Nat.mul_le_mul_right e hil
          rw [Nat.add_mul] at this
          omega
        rw [List.getElem?_map, List.getElem?_range hlt]
        simp only [Option.map_some]
        have h1 : (i * e + k) / e = i := by
          rw [Nat.mul_comm, Nat.mul_add_div he, Nat.div_eq_of_lt (by omega)]; omega
        have h2 : (i * e + k) % e = k := by
          rw [Nat.mul_comm, Nat.mul_add_mod]; exact Nat.mod_eq_of_lt (by omega)
        rw [h1, h2]
      · rcases q4 with q4 | ⟨g, off, rfl, hg, hl, hcell⟩
        · exact .inl q4
        · refine .inr ⟨_, rfl, fun _ j u hj => ?_⟩
          rw [List.getElem?_map] at hj
          have hjl : j < rows.length * e := by
            have := (List.getElem?_eq_some_iff.1 (Option.map_eq_some_iff.1 hj).choose_spec.1).1
            simpa using this
          rw [List.getElem?_range hjl] at hj
          simp only [Option.map_some, Option.some.injEq] at hj
          subst hj
          have hi : j / e < rows.length := by rw [Nat.div_lt_iff_lt_mul he]; omega
          have hk : j % e < e := Nat.mod_lt _ he
          have hr := q3 _ (List.getElem_mem hi)
          have := hcell (j / e) rows[j / e] (j % e) (rows[j / e][j % e]'(by omega)) (List.getElem?_eq_getElem hi) (List.getElem?_eq_getElem (by omega))
          rw [addr_add, ← this]
          congr 2
          rw [Nat.add_assoc, Nat.mul_comm, Nat.div_add_mod]
    · have he0 : e = 0 := by omega
      subst he0
      refine ⟨a, cap, [], rfl, q1, q2, ⟨by simp, q3, fun i r k p hi hk => ?_⟩, ?_⟩
      · have := q3 r (List.mem_of_getElem? hi)
        have := (List.getElem?_eq_some_iff.1 hk).1
        omega
      · rcases q4 with q4 | ⟨g, off, rfl, _⟩
        · exact .inl q4
        · exact .inr ⟨_, rfl, fun h => by omega⟩
/-- 'append', whatever the source, onto nothing or a block that may be written. -/
theorem run_appT {P : Program} (w : World) (t tx ty el : TypeId) (i : TypeInfo) (z : Value) (size bytes : Nat) (ht : P.underlying t = some (.slice el)) (hi : P.info? el = some i) (hz : i.zero = some z)
    (hsize : i.size = size) (hby : i.bytes = bytes) (hzs : z.cells.size = size) (v : Value) (n : Nat) (xs : List Value) (hxl : xs.length = n * size)
    (hown : (∃ a, v = .slice a 0 0 ∧ n = 0) ∨ ∃ g cap cur el', v = .slice (some ⟨g, 0, none⟩) n cap ∧ w.heap[g]? = some (.cells cur el' (0, 0)) ∧ n ≤ cap ∧ cap ≤ maxLen ∧ cur.size = cap * size ∧ cur.toList.take (n * size) = xs ∧ 0 < cap)
    (x : Value) (m : Nat) (news : List Value) (hs : Src P size tx x m news w) (h63 : n + m ≤ maxLen) (hbytes : (n + m) * bytes ≤ 140737488355328) :
    ∃ v' w', (Builtin.append_ #[t, tx] ty #[v, x]).run P w = .ok v' w' ∧
      ((∃ a, v' = .slice a 0 0 ∧ w' = w ∧ n + m = 0) ∨
       (∃ g cap cur el' cur', v = .slice (some ⟨g, 0, none⟩) n cap ∧ w.heap[g]? = some (.cells cur el' (0, 0)) ∧ v' = .slice (some ⟨g, 0, none⟩) (n + m) cap ∧ n + m ≤ cap ∧ cap ≤ maxLen ∧ w' = w.setRow g cur' ∧ cur'.size = cur.size ∧ cur.size = cap * size ∧ cur'.toList.take ((n + m) * size) = xs ++ news ∧ 0 < cap) ∨
       (∃ cap cur', v' = .slice (some ⟨w.heap.size, 0, none⟩) (n + m) cap ∧ n + m ≤ cap ∧ cap ≤ maxLen ∧ w'.heap = w.heap.push (.cells cur' el) ∧ w'.os = w.os ∧ w'.tape = w.tape ∧ w'.output = w.output ∧ cur'.size = cap * size ∧ cur'.toList.take ((n + m) * size) = xs ++ news)) := by
  subst hsize
  subst hby
  have hl := hs.newsLen
  have hlen : (xs ++ news).length = (n + m) * i.size := by rw [List.length_append, hxl, hl, Nat.add_mul]
  have hsmall : n + m ≤ 9223372036854775807 := by simp only [maxLen] at h63; omega
  have grown : ∀ (old : Nat), ∃ cap cur', (Value.slice (some ⟨w.heap.size, 0, none⟩) (n + m) (grownCap w (n + m) old el)) = .slice (some ⟨w.heap.size, 0, none⟩) (n + m) cap ∧ n + m ≤ cap ∧ cap ≤ maxLen ∧
      (w.drew.alloc (.cells ((xs ++ news).toArray ++ Builtin.zeroCells z.cells (grownCap w (n + m) old el - (n + m))) el)).heap = w.heap.push (.cells cur' el) ∧ (w.drew.alloc (.cells ((xs ++ news).toArray ++ Builtin.zeroCells z.cells (grownCap w (n + m) old el - (n + m))) el)).os = w.os ∧
      (w.drew.alloc (.cells ((xs ++ news).toArray ++ Builtin.zeroCells z.cells (grownCap w (n + m) old el - (n + m))) el)).tape = w.tape ∧ (w.drew.alloc (.cells ((xs ++ news).toArray ++ Builtin.zeroCells z.cells (grownCap w (n + m) old el - (n + m))) el)).output = w.output ∧
      cur'.size = cap * i.size ∧ cur'.toList.take ((n + m) * i.size) = xs ++ news := by
    intro old
    have hge := grownCap_ge w (n + m) old el
    have hcm : grownCap w (n + m) old el ≤ maxLen := grownCap_le_maxLen w (n + m) old el h63
    refine ⟨_, (xs ++ news).toArray ++ Builtin.zeroCells z.cells (grownCap w (n + m) old el - (n + m)), rfl, hge, hcm, rfl, rfl, rfl, rfl, ?_, ?_⟩
    · simp only [Array.size_append, List.size_toArray, size_zeroCells, hzs, hlen, ← Nat.add_mul]
      congr 1
      omega
    · simp only [Array.toList_append]
      rw [← hlen]
      exact List.take_left
  rcases hown with ⟨a, rfl, rfl⟩ | ⟨g, cap, cur, el', rfl, hg, hnc, hcm, hcs, htake, hpos⟩
  · have hx : xs = [] := List.eq_nil_of_length_eq_zero (by simpa using hxl)
    subst hx
    by_cases hm : m = 0
    · subst hm
      have hn : news = [] := List.eq_nil_of_length_eq_zero (by simpa using hl)
      subst hn
      refine ⟨.slice a 0 0, w, ?_, .inl ⟨a, rfl, rfl, rfl⟩⟩
      rcases hs.kind with ⟨e', hk⟩ | hk <;> cases a <;> simp [Builtin.append_, run_underlying ht, run_underlying hk, sizeOf, typeInfo, hi, hs.len, hs.cells, storeCells]
    · have hold : (Builtin.firstCells i.size 0 (.slice a 0 0)).run P w.drew = .ok (#[] : Array Value) w.drew := by
        cases a with
        | none => exact run_firstCells_none w.drew i.size 0 0 0
        | some a => simp [Builtin.firstCells, loadCells, loadCellsFrom, Sem.run_pure]
      have hr := run_append_grow_src (P := P) w t tx ty el i z ht hi hz a 0 0 [] hold x m news hs (by omega) (by omega) (growslice_fits (by omega) (by simpa using hbytes))
      have hgr := grown 0
      simp only [Nat.zero_add, List.nil_append] at hgr hr ⊢
      exact ⟨_, _, hr, .inr (.inr hgr)⟩
  · by_cases hroom : n + m ≤ cap
    · have hfit : n * i.size + news.length ≤ cur.size := by rw [hl, hcs, ← Nat.add_mul]; exact Nat.mul_le_mul_right _ hroom
      have hst := run_storeCells_at P g (n * i.size) el' news 0 cur w hg (by simpa using hfit) hs.one
      simp only [Nat.add_zero] at hst
      have hr : (Builtin.append_ #[t, tx] ty #[.slice (some ⟨g, 0, none⟩) n cap, x]).run P w = .ok (.slice (some ⟨g, 0, none⟩) (n + m) cap) (w.setRow g (cur.toList.take (n * i.size) ++ news ++ cur.toList.drop (n * i.size + news.length)).toArray) := by
        rcases hs.kind with ⟨e', hk⟩ | hk <;> simp [Builtin.append_, run_underlying ht, run_underlying hk, sizeOf, typeInfo, hi, hs.len, hroom, hs.cells, Addr.add_lit, hst]
      refine ⟨_, _, hr, .inr (.inl ⟨g, cap, cur, el', _, rfl, hg, rfl, hroom, hcm, rfl, ?_, hcs, ?_, hpos⟩)⟩
      · simp only [List.size_toArray, List.length_append, List.length_take, List.length_drop, Array.length_toList]
        omega
      · rw [htake, ← hlen]
        exact List.take_left
    · have hr := run_append_grow_src (P := P) w t tx ty el i z ht hi hz (some ⟨g, 0, none⟩) n cap xs (run_firstCells_some w.drew i.size n ⟨g, 0, none⟩ n cap xs hxl (fun j u hj => by
        rw [addr_add, Nat.zero_add, World.cell?]
        show (match w.heap[g]? with | some (.cells c _ _) => _ | _ => _) = _
        rw [hg]
        rw [← htake, List.getElem?_take] at hj
        split at hj
        · simpa using hj
        · cases hj)) x m news hs (by omega) (by omega) (growslice_fits (by omega) hbytes)
      exact ⟨_, _, hr, .inr (.inr (grown cap))⟩
section
variable {E : En} {N : Nat} {P : Program} {T : Tb P} {ops : Array Oper} {o : Oper} {st : St} {d : Nat} {ty : Nat} {pos : String} {af : Array Edge} {gd : Option (Nat × Bool)} {cx : Cx} {a : Act} {w w' : World} {v : Value}
/-- What is appended. -/
def SrcR (E : En) (N : Nat) (P : Program) (ops : Array Oper) (o : Oper) (st : St) (rb : List Bid) (tx : TypeId) (e : Nat) (y : Operand) (rows : List (List PV)) : Prop :=
  ∀ st' cx a w, Agree ops o ⟨rb, []⟩ st st' → Rel E N cx st' a w → ∃ us, RowsR w cx.A e rows us ∧ Src P e tx (a.eval y) rows.length us w
theorem srcR_l {y : Operand} {tx e' : TypeId} {e : Nat} {tt : TE} {rows : List (List PV)} (hm : y ∈ o.op.operands.toList) (hy : okC y = true) (h1 : st.ev y = .c (.p (.l e rows))) (he : 0 < e) (ht : lkN T.ty tx = some tt) (hk : tt.kd = .slice e') : SrcR E N P ops o st [] tx e y rows := by
  intro st' cx a w ha hr
  obtain ⟨-, h4⟩ := evc h1 hy ha hm hr
  obtain ⟨a', cap, us, h5, h6, h7, h8, h9⟩ := rows_of_rp h4
  refine ⟨us, h8, ?_⟩
  rw [h5]
  rcases h9 with rfl | ⟨ad, rfl, hc⟩
  · have hus : us = [] := List.eq_nil_of_length_eq_zero (by simpa using h8.1)
    subst hus
    cases a' with
    | none => exact Src.ofNil w (kd_slice ht hk) cap
    | some a' => exact Src.ofSlice w (kd_slice ht hk) a' 0 cap [] (by simp) (by simp) (by simp)
  · exact Src.ofSlice w (kd_slice ht hk) ad _ cap us h8.1 (hc he) (h8.one he)
theorem srcR_nil {y : Operand} {tx e' : TypeId} {e : Nat} {tt : TE} (hm : y ∈ o.op.operands.toList) (hy : okC y = true) (h1 : st.ev y = .c (.p (.v (.slice none 0 0)))) (ht : lkN T.ty tx = some tt) (hk : tt.kd = .slice e') : SrcR E N P ops o st [] tx e y [] := by
  intro st' cx a w ha hr
  obtain ⟨e1, -⟩ := evv h1 hy ha hm hr
  exact ⟨[], RowsR.nil _ _ _, by rw [e1]; exact Src.ofNil w (kd_slice ht hk) 0⟩
theorem srcR_sl {y : Operand} {tx e' : TypeId} {e off n : Nat} {b : Bid} {tt : TE} {rows : List (List PV)} {mu : Bool} (hm : y ∈ o.op.operands.toList) (hy : okC y = true) (h1 : st.ev y = .c (.sl b off n)) (hb : st.h b = some (.row e rows mu)) (ht : lkN T.ty tx = some tt) (hk : tt.kd = .slice e') :
    SrcR E N P ops o st [b] tx e y ((rows.drop off).take n) := by
  intro st' cx a w ha hr
  obtain ⟨-, h4⟩ := evc h1 hy ha hm hr
  have hb' : st'.h b = some (.row e rows mu) := by rw [ha.2 b (by simp)]; exact hb
  obtain ⟨a', cap, h5, h6, h7, h8, h9⟩ := h4 _ hb'
  obtain ⟨he, hre, hrb⟩ := hr.bl b _ hb'
  simp only [Bk.len] at h8
  simp only [Bk.e] at h9
  have hlen : ((rows.drop off).take n).length = n := by rw [List.length_take, List.length_drop]; omega
  rw [h5]
  rcases h9 with h9 | ⟨g, c, el, fz, h10, rfl, h11, h12⟩
  · have hn : n = 0 := by omega
    subst hn
    refine ⟨[], by simpa using RowsR.nil _ _ _, ?_⟩
    have : ((rows.drop off).take 0).length = 0 := by simp
    rw [this]
    cases a' with
    | none => exact Src.ofNil w (kd_slice ht hk) cap
    | some a' => exact Src.ofSlice w (kd_slice ht hk) a' 0 cap [] (by simp) (by simp) (by simp)
  · rw [h10] at hrb
    obtain ⟨-, c', el', fz', capR, h13, h14, h15, h16, h17, h18, h19⟩ := hrb
    rw [h11] at h13
    cases h13
    have hR : RowsR w cx.A e ((rows.drop off).take n) ((c.toList.drop (off * e)).take (n * e)) := by
      refine ⟨?_, fun r hr => hre r (List.mem_of_mem_drop (List.mem_of_mem_take hr)), fun i r k p hi hk => ?_⟩
      · rw [hlen, List.length_take, List.length_drop, Array.length_toList, h12 he, ← Nat.sub_mul]
        have : n * e ≤ (off + cap - off) * e := Nat.mul_le_mul_right e (by omega)
        omega
      · rw [List.getElem?_take] at hi
        split at hi
        · rename_i hin
          rw [List.getElem?_drop] at hi
          obtain ⟨cv, hcv, hp⟩ := h19 (off + i) r k p hi hk
          refine ⟨cv, ?_, hp⟩
          have hkl := (List.getElem?_eq_some_iff.1 hk).1
          have hrl := hre r (List.mem_of_getElem? hi)
          have hlt : i * e + k < n * e := by
            have : (i + 1) * e ≤ n * e := Nat.mul_le_mul_right e hin
            rw [Nat.add_mul] at this
            omega
          rw [List.getElem?_take, if_pos hlt, List.getElem?_drop, Array.getElem?_toList, ← hcv, Nat.add_mul]
          congr 1
          omega
        · cases hi
    refine ⟨_, hR, ?_⟩
    rw [hlen]
    refine Src.ofSlice w (kd_slice ht hk) _ n cap _ (by rw [hR.1, hlen]) (fun j u hj => ?_) (hR.one he)
    rw [List.getElem?_take] at hj
    split at hj
    · rw [List.getElem?_drop, Array.getElem?_toList] at hj
      rw [addr_add, World.cell?, h11]
      simpa using hj
    · cases hj
/-- The bytes of a string, as rows. -/
theorem srcR_str {y : Operand} {tx : TypeId} {tt : TE} {s : ByteArray} (hm : y ∈ o.op.operands.toList) (hy : okC y = true) (h1 : st.ev y = .c (.p (.v (.string s)))) (ht : lkN T.ty tx = some tt) (hk : tt.kd = .string) : SrcR E N P ops o st [] tx 1 y (iR .u8 (sI s)) := by
  intro st' cx a w ha hr
  obtain ⟨e1, -⟩ := evv h1 hy ha hm hr
  refine ⟨(sI s).map (.int .u8), ⟨by simp [iR_len], fun r hr => by simp only [iR, List.mem_map] at hr; obtain ⟨n, _, rfl⟩ := hr; rfl, fun i r k p hi hk => ?_⟩, ?_⟩
  · have hlt := (List.getElem?_eq_some_iff.1 hi).1
    rw [iR_len] at hlt
    rw [iR_at hlt] at hi
    cases hi
    cases k with
    | zero =>
      simp at hk
      subst hk
      refine ⟨.int .u8 (gI (sI s) i), by simp [gI_eq hlt, hlt], .v _ (wf_sI s _ (gI_mem hlt))⟩
    | succ k => simp at hk
  · rw [e1, iR_len]
    exact src_string w s (kd_string ht hk)
theorem te_full {t : TypeId} {x : TE} (h : lkN T.ty t = some x) : ∃ i, P.info? t = some i ∧ i.size = x.size ∧ i.bytes = x.bytes ∧ i.zero = some x.zero := by
  obtain ⟨d, i, h1, h2, h3, h4, h5, h6⟩ := te_inv (T.ok _ _ h)
  exact ⟨i, h2, h4, h5, h6⟩
theorem rel_nil_rt {cx : Cx} {w : World} {h : Bid → Option Bk} {b : Bid} {e : Nat} {mu : Bool} {a : Option Addr} (hb : h b = some (.row e [] mu)) : RT cx w h (.c (.sl b 0 0)) (.slice a 0 0) :=
  ⟨.inr rfl, fun bk hbk => by rw [hb] at hbk; cases hbk; exact ⟨a, 0, rfl, Nat.le_refl _, Nat.zero_le _, Nat.le_refl _, .inl rfl⟩⟩
/-- append, onto nothing. -/
theorem opL_app_nil {x y : Operand} {t tx el : TypeId} {te tt : TE} {e : Nat} {rows : List (List PV)} {rb : List Bid} (hx : st.ev x = .c (.p (.v (.slice none 0 0)))) (hcx : okC x = true) (ht : lkN T.ty t = some tt) (hk : tt.kd = .slice el) (hel : lkN T.ty el = some te) (hes : te.size = e) (he : 0 < e) (hz : te.zero.cells.size = e)
    (hsrc : SrcR E N P ops ⟨some d, .call { callee := .builtin .append, args := #[x, y], argTypes := #[t, tx] }, ty, pos, af, gd⟩ st rb tx e y rows) (hn : rows.length ≤ 140737488355328) (hby : rows.length * te.bytes ≤ 140737488355328) :
    OpL E N P ops ⟨some d, .call { callee := .builtin .append, args := #[x, y], argTypes := #[t, tx] }, ty, pos, af, gd⟩ st ⟨rb, [(d, 0)]⟩ ⟨.c (.sl (d, 0) 0 rows.length), [((d, 0), some (.row e rows true))]⟩ := by
  intro st' ha hf hd cx a w Q hr
  obtain ⟨e1, -⟩ := evv hx hcx ha (by simp [Op.operands, Call.operands]) hr
  obtain ⟨us, hR, hS⟩ := hsrc st' cx a w ha hr
  have hfr := hf (d, 0) (by simp)
  obtain ⟨i, hi1, hi2, hi3, hi4⟩ := te_full hel
  obtain ⟨bc, hbc⟩ := run_builtin (P := P) (d := d) (ty := ty) (pos := pos) (af := af) (gd := gd) (w := w) (b := .append) (args := #[x, y]) (ats := #[t, tx]) (a := a)
  obtain ⟨v', w', hrun, hcase⟩ := run_appT (P := P) w t tx ty el i te.zero e te.bytes (kd_slice ht hk) hi1 hi4 (by rw [hi2, hes]) hi3 hz (.slice none 0 0) 0 [] (by simp) (.inl ⟨none, rfl, rfl⟩) (a.eval y) rows.length us hS (by unfold maxLen; omega) (by simpa using hby)
  have hrun' : (execOp a.eval ⟨some d, .call { callee := .builtin .append, args := #[x, y], argTypes := #[t, tx] }, ty, pos, af, gd⟩).run P w = .ok (.value v') w' := by
    rw [hbc]
    simp only [List.map_toArray, List.map_cons, List.map_nil, e1, builtin, Sem.run_bind, hrun, Result.andThen_ok, Sem.run_pure]
  rcases hcase with ⟨a', rfl, rfl, h0⟩ | ⟨g, cap, cur, el', cur', h1, _⟩ | ⟨cap, cur', rfl, h2, h3, h4, h5, h6, h7, h8, h9⟩
  · have hrows : rows = [] := List.eq_nil_of_length_eq_zero (by omega)
    subst hrows
    -- nothing is made: the block is none
    refine upon_ok hrun' ⟨cx.upd (d, 0) none, ?_⟩
    have hcmp : ∀ b', b' ≠ (d, 0) → Cmp cx w' st'.h (cx.upd (d, 0) none) w' (Ef.ap ⟨.c (.sl (d, 0) 0 0), [((d, 0), some (.row e [] true))]⟩ ⟨some d, .call { callee := .builtin .append, args := #[x, y], argTypes := #[t, tx] }, ty, pos, af, gd⟩ st').h b' := by
      intro b' hb' bk' hbk
      rw [ap_h1, if_neg hb'] at hbk
      exact ⟨bk', hbk, rfl, Nat.le_refl _, by simp [Cx.upd, hb'], fun g o c el fz _ h => ⟨c, el, fz, h, fun _ => rfl⟩⟩
    refine hr.step (ef := ⟨.c (.sl (d, 0) 0 0), [((d, 0), some (.row e [] true))]⟩) hd [(d, 0)] (fun b' hb' => by rw [List.mem_singleton.1 hb']; exact hfr) (fun _ h => h) (fun _ h => .inl h) (Keeps.refl _ _) (fun _ _ _ => rfl) rfl rfl rfl (fun b' hb' => hcmp b' (by simpa using hb')) ?_ ?_ ?_ (rel_nil_rt (e := e) (mu := true) (by rw [ap_h1, if_pos rfl])) (upd_pin (Nat.lt_of_lt_of_le (hd d rfl) hr.hN))
    · intro b' bk' hb'
      by_cases e : b' = (d, 0)
      · subst e
        rw [ap_h1, if_pos rfl] at hb'
        cases hb'
        exact .inr ⟨he, by simp, by simp [Cx.upd]⟩
      · rw [ap_h1, if_neg e] at hb'
        exact .inl ⟨by simpa using e, hb', by simp [Cx.upd, e], fun _ _ _ => ⟨rfl, fun h => h⟩⟩
    · intro b1 b2 g o g' o' h1 h2 h3 h4 hne
      rw [ap_h1] at h1 h2
      simp only [Cx.upd] at h3 h4
      by_cases e1 : b1 = (d, 0)
      · rw [if_pos e1] at h3; cases h3
      · by_cases e2 : b2 = (d, 0)
        · rw [if_pos e2] at h4; cases h4
        · rw [if_neg e1] at h1 h3; rw [if_neg e2] at h2 h4
          exact hr.inj b1 b2 g o g' o' h1 h2 h3 h4 hne
    · intro b1 g o h1 h2
      rw [ap_h1] at h1
      simp only [Cx.upd] at h2
      by_cases e1 : b1 = (d, 0)
      · rw [if_pos e1] at h2; cases h2
      · rw [if_neg e1] at h1 h2
        exact hr.own b1 g o h1 h2
  · cases h1
  · rw [Nat.zero_add] at hrun' h2 h9
    rw [List.nil_append] at h9
    have hup : (cx.upd (d, 0) (some (w.heap.size, 0))).ι (d, 0) = some (w.heap.size, 0) := by simp [Cx.upd]
    refine upon_ok hrun' ⟨_, step_alloc hr hd (b := (d, 0)) (hd d rfl) hfr h4 h5 h6 h7 ?_ ?_⟩
    · refine ⟨he, hR.2.1, ?_⟩
      rw [hup]
      refine ⟨rfl, cur', el, (0, 0), cap, push_new h4, fun _ => ⟨rfl, fun h => ?_⟩, (fun h => by cases h), h8, h2, h3, fun i r k p hi' hk' => ?_⟩
      · have := (hr.A _ h).1; omega
      · obtain ⟨u, hu, hp⟩ := hR.2.2 i r k p hi' hk'
        refine ⟨u, ?_, hp.keeps (fun _ h => h) (keeps_push h4)⟩
        rw [← h9, List.getElem?_take] at hu
        split at hu
        · simpa using hu
        · cases hu
    · refine ⟨.inr rfl, fun bk hbk => ?_⟩
      rw [ap_h1, if_pos rfl] at hbk
      cases hbk
      refine ⟨_, cap, rfl, h2, h3, by simp [Bk.len], .inr ⟨w.heap.size, cur', el, (0, 0), hup, by simp, push_new h4, ?_⟩⟩
      rw [h8]; simp [Bk.e]
end
end Go.Proofs.Ythlaenafkihjiaa
/- Operations over abstract worlds, sixth part: append onto a block, elements written. Conditions: those of the operations. -/
namespace Go.Proofs.Ythlaenafkihjiaa
open Go.RowKit
set_option linter.unusedVariables false
set_option linter.unusedSimpArgs false
theorem ap_h2 {t : TV} {b c : Bid} {x y : Option Bk} {o : Oper} {st : St} (b' : Bid) : (Ef.ap ⟨t, [(b, x), (c, y)]⟩ o st).h b' = if b' = b then x else if b' = c then y else st.h b' := by
  unfold St.h Ef.ap
  simp only [List.cons_append, List.nil_append, lkB]
  by_cases h : b' = b
  · subst h
    rw [beqB_iff.2 rfl, if_pos rfl]; rfl
  · have h1 : beqB b b' = false := by
      cases hb : beqB b b' with
      | false => rfl
      | true => exact absurd (beqB_iff.1 hb).symm h
    rw [h1, if_neg h]
    by_cases h2 : b' = c
    · subst h2
      rw [if_pos rfl]
      simp only
      rw [beqB_iff.2 rfl]; rfl
    · have h3 : beqB c b' = false := by
        cases hb : beqB c b' with
        | false => rfl
        | true => exact absurd (beqB_iff.1 hb).symm h2
      rw [if_neg h2]
      simp only
      rw [h3]
section
variable {E : En} {N : Nat} {P : Program} {T : Tb P} {ops : Array Oper} {o : Oper} {st : St} {d : Nat} {ty : Nat} {pos : String} {af : Array Edge} {gd : Option (Nat × Bool)} {cx : Cx} {a : Act} {w w' : World} {v : Value}
/-- A block takes another one's place. -/
theorem step_move (hr : Rel E N cx st a w) (hd : ∀ d, o.dst = some d → d < N) {b c : Bid} (hb0 : b.1 < N) (hf : FreshB b st) (hc : ∃ bk, st.h c = some bk) {bk : Bk} {t : TV} {x : Option (Nat × Nat)}
    (hA : Keeps cx.A w w') (hos : w'.os = w.os) (htp : w'.tape = w.tape) (hou : w'.output = w.output)
    (hother : ∀ g, (∀ q, cx.ι c ≠ some (g, q)) → g < w.heap.size → w'.heap[g]? = w.heap[g]?)
    (hx : ∀ g q, x = some (g, q) → (∃ q', cx.ι c = some (g, q')) ∧ g < w'.heap.size ∨ g = w.heap.size ∧ g < w'.heap.size)
    (hRB : RB (cx.upd b x) w' (Ef.ap ⟨t, [(b, some bk), (c, none)]⟩ o st).h b bk) (hRT : RT (cx.upd b x) w' (Ef.ap ⟨t, [(b, some bk), (c, none)]⟩ o st).h t v) :
    Rel E N (cx.upd b x) (Ef.ap ⟨t, [(b, some bk), (c, none)]⟩ o st) (a.put o.dst v) w' := by
  obtain ⟨bkc, hbc⟩ := hc
  have hne : c ≠ b := fun e => by rw [e, hf.1] at hbc; cases hbc
  have hoc : ∀ b' g q, b' ≠ c → st.h b' ≠ none → cx.ι b' = some (g, q) → ∀ q', cx.ι c ≠ some (g, q') := fun b' g q h1 h2 h3 q' h4 => hr.inj b' c g q g q' h2 (by rw [hbc]; simp) h3 h4 h1 rfl
  have hkb : ∀ b' g q, b' ≠ c → st.h b' ≠ none → cx.ι b' = some (g, q) → w'.heap[g]? = w.heap[g]? := fun b' g q h1 h2 h3 => hother g (hoc b' g q h1 h2 h3) (hr.own b' g q h2 h3).1
  refine hr.step (ef := ⟨t, [(b, some bk), (c, none)]⟩) hd [b] (fun b' hb' => by rw [List.mem_singleton.1 hb']; exact hf) (fun _ h => h) (fun _ h => .inl h) hA ?_ hos htp hou ?_ ?_ ?_ ?_ hRT (upd_pin (Nat.lt_of_lt_of_le hb0 hr.hN))
  · intro g hg hM
    refine hother g (fun q hq => ?_) (Nat.lt_of_lt_of_le hg hr.sz)
    rcases (hr.own c g q (by rw [hbc]; simp) hq).2 with h | h
    · omega
    · exact hM h
  · intro b' hb' bk' hbk
    have hb' : b' ≠ b := by simpa using hb'
    rw [ap_h2, if_neg hb'] at hbk
    by_cases e : b' = c
    · rw [if_pos e] at hbk; cases hbk
    · rw [if_neg e] at hbk
      refine ⟨bk', hbk, rfl, Nat.le_refl _, by simp [Cx.upd, hb'], fun g q c' el fz h1 h2 => ⟨c', el, fz, ?_, fun _ => rfl⟩⟩
      rw [hkb b' g q e (by rw [hbk]; simp) h1]; exact h2
  · intro b' bk' hbk
    by_cases e1 : b' = b
    · subst e1
      rw [ap_h2, if_pos rfl] at hbk
      cases hbk
      exact .inr hRB
    · rw [ap_h2, if_neg e1] at hbk
      by_cases e : b' = c
      · rw [if_pos e] at hbk; cases hbk
      · rw [if_neg e] at hbk
        exact .inl ⟨by simpa using e1, hbk, by simp [Cx.upd, e1], fun g q h1 => ⟨hkb b' g q e (by rw [hbk]; simp) h1, fun h => h⟩⟩
  · intro b1 b2 g q g' q' h1 h2 h3 h4 hne'
    rw [ap_h2] at h1 h2
    simp only [Cx.upd] at h3 h4
    have hnew : ∀ b2 g' q', b2 ≠ b → (if b2 = b then some bk else if b2 = c then none else st.h b2) ≠ none → cx.ι b2 = some (g', q') → ∀ g q, x = some (g, q) → g ≠ g' := by
      intro b2 g' q' e2 h2 h4 g q h3
      rw [if_neg e2] at h2
      have e3 : b2 ≠ c := fun e => by rw [if_pos e] at h2; exact h2 rfl
      rw [if_neg e3] at h2
      rcases hx g q h3 with ⟨⟨q2, h5⟩, h6⟩ | ⟨h5, h6⟩
      · rintro rfl
        exact hoc b2 g q' e3 h2 h4 q2 h5
      · have := (hr.own b2 g' q' h2 h4).1
        omega
    by_cases e1 : b1 = b <;> by_cases e2 : b2 = b
    · exact absurd (e1.trans e2.symm) hne'
    · rw [if_pos e1] at h3; rw [if_neg e2] at h4
      exact hnew b2 g' q' e2 h2 h4 g q h3
    · rw [if_neg e1] at h3; rw [if_pos e2] at h4
      exact fun e => hnew b1 g q e1 h1 h3 g' q' h4 e.symm
    · rw [if_neg e1] at h1 h3; rw [if_neg e2] at h2 h4
      by_cases e3 : b1 = c
      · rw [if_pos e3] at h1; exact absurd rfl h1
      · by_cases e4 : b2 = c
        · rw [if_pos e4] at h2; exact absurd rfl h2
        · rw [if_neg e3] at h1; rw [if_neg e4] at h2
          exact hr.inj b1 b2 g q g' q' h1 h2 h3 h4 hne'
  · intro b1 g q h1 h2
    rw [ap_h2] at h1
    simp only [Cx.upd] at h2
    by_cases e1 : b1 = b
    · rw [if_pos e1] at h2
      rcases hx g q h2 with ⟨⟨q2, h5⟩, h6⟩ | ⟨h5, h6⟩
      · exact ⟨h6, (hr.own c g q2 (by rw [hbc]; simp) h5).2⟩
      · exact ⟨h6, .inl (by have := hr.sz; omega)⟩
    · rw [if_neg e1] at h1 h2
      by_cases e3 : b1 = c
      · rw [if_pos e3] at h1; exact absurd rfl h1
      · rw [if_neg e3] at h1
        obtain ⟨h3, h4⟩ := hr.own b1 g q h1 h2
        exact ⟨Nat.lt_of_lt_of_le h3 hA.sz, h4⟩
/-- append, onto a block of one's own. -/
theorem opL_app_sl {x y : Operand} {t tx el : TypeId} {te tt : TE} {e n : Nat} {b : Bid} {rows rows' rows2 : List (List PV)} {rb : List Bid} (hx : st.ev x = .c (.sl b 0 n)) (hcx : okC x = true) (hb : st.h b = some (.row e rows true)) (hn : rows.length = n)
    (ht : lkN T.ty t = some tt) (hk : tt.kd = .slice el) (hel : lkN T.ty el = some te) (hes : te.size = e) (hz : te.zero.cells.size = e)
    (hsrc : SrcR E N P ops ⟨some d, .call { callee := .builtin .append, args := #[x, y], argTypes := #[t, tx] }, ty, pos, af, gd⟩ st rb tx e y rows') (h2 : rows ++ rows' = rows2) {n2 : Nat} (hn2 : n + rows'.length = n2) (hlen : n2 ≤ 140737488355328) (hby : n2 * te.bytes ≤ 140737488355328) :
    OpL E N P ops ⟨some d, .call { callee := .builtin .append, args := #[x, y], argTypes := #[t, tx] }, ty, pos, af, gd⟩ st ⟨b :: rb, [(d, 0)]⟩ ⟨.c (.sl (d, 0) 0 n2), [((d, 0), some (.row e rows2 true)), (b, none)]⟩ := by
  intro st' ha hf hd cx a w Q hr
  have ha' : Agree ops ⟨some d, .call { callee := .builtin .append, args := #[x, y], argTypes := #[t, tx] }, ty, pos, af, gd⟩ ⟨rb, []⟩ st st' := ⟨ha.1, fun b' hb' => ha.2 b' (List.mem_cons_of_mem _ hb')⟩
  obtain ⟨-, h4⟩ := evc hx hcx ha (by simp [Op.operands, Call.operands]) hr
  have hb' : st'.h b = some (.row e rows true) := by rw [ha.2 b (by simp)]; exact hb
  obtain ⟨a', cap0, h5, h6, h7, h8, h9⟩ := h4 _ hb'
  obtain ⟨he, hre, hrb⟩ := hr.bl b _ hb'
  obtain ⟨us, hR, hS⟩ := hsrc st' cx a w ha' hr
  have hfr := hf (d, 0) (by simp)
  subst h2
  subst hn2
  subst hn
  obtain ⟨i, hi1, hi2, hi3, hi4⟩ := te_full hel
  obtain ⟨bc, hbc⟩ := run_builtin (P := P) (d := d) (ty := ty) (pos := pos) (af := af) (gd := gd) (w := w) (b := .append) (args := #[x, y]) (ats := #[t, tx]) (a := a)
  -- the elder cells
  have hown : ∃ xs, RowsR w cx.A e rows xs ∧ ((∃ a, Value.slice a' rows.length cap0 = .slice a 0 0 ∧ rows.length = 0) ∨ ∃ g cap cur el', Value.slice a' rows.length cap0 = .slice (some ⟨g, 0, none⟩) rows.length cap ∧ w.heap[g]? = some (.cells cur el' (0, 0)) ∧ rows.length ≤ cap ∧ cap ≤ maxLen ∧ cur.size = cap * e ∧ cur.toList.take (rows.length * e) = xs ∧ 0 < cap) ∧
      ∀ g, a' = some ⟨g, 0, none⟩ → 0 < cap0 → cx.ι b = some (g, 0) ∧ ¬ cx.A g := by
    by_cases hc0 : cap0 = 0
    · have hr0 : rows = [] := List.eq_nil_of_length_eq_zero (by omega)
      subst hr0
      subst hc0
      exact ⟨[], RowsR.nil _ _ _, .inl ⟨a', rfl, rfl⟩, fun g _ h => by omega⟩
    · rcases h9 with h9 | ⟨g, c, el', fz, h10, h11, h12, h13⟩
      · exact absurd h9 hc0
      · rw [h10] at hrb
        obtain ⟨-, c', el2, fz', capR, h14, h15, h16, h17, h18, h19, h20⟩ := hrb
        rw [h12] at h14
        cases h14
        obtain ⟨rfl, hnA⟩ := h15 rfl
        simp only [Bk.e, Nat.zero_mul, Nat.zero_add] at h11 h13
        replace h13 := h13 he
        refine ⟨c.toList.take (rows.length * e), ⟨?_, hre, fun i r k p hi hk => ?_⟩, .inr ⟨g, cap0, c, el', by rw [h11], h12, h6, h7, h13, rfl, by omega⟩, fun g' hg' _ => ?_⟩
        · have hcl : c.toList.length = cap0 * e := by rw [Array.length_toList, h13]
          rw [List.length_take, hcl]
          have : rows.length * e ≤ cap0 * e := Nat.mul_le_mul_right e h6
          omega
        · obtain ⟨cv, hcv, hp⟩ := h20 i r k p hi hk
          refine ⟨cv, ?_, hp⟩
          have hil := (List.getElem?_eq_some_iff.1 hi).1
          have hkl := (List.getElem?_eq_some_iff.1 hk).1
          have hrl := hre r (List.mem_of_getElem? hi)
          have hlt : i * e + k < rows.length * e := by
            have : (i + 1) * e ≤ rows.length * e := Nat.mul_le_mul_right e hil
            rw [Nat.add_mul] at this
            omega
          rw [List.getElem?_take, if_pos hlt, Array.getElem?_toList]; exact hcv
        · rw [h11] at hg'
          cases hg'
          exact ⟨h10, hnA⟩
  obtain ⟨xs, hxs, hal, hιb⟩ := hown
  obtain ⟨v', w', hrun, hcase⟩ := run_appT (P := P) w t tx ty el i te.zero e te.bytes (kd_slice ht hk) hi1 hi4 (by rw [hi2, hes]) hi3 hz (.slice a' rows.length cap0) rows.length xs hxs.1 hal (a.eval y) rows'.length us hS (by unfold maxLen; omega) hby
  have hrun' : (execOp a.eval ⟨some d, .call { callee := .builtin .append, args := #[x, y], argTypes := #[t, tx] }, ty, pos, af, gd⟩).run P w = .ok (.value v') w' := by
    rw [hbc]
    simp only [List.map_toArray, List.map_cons, List.map_nil, h5, builtin, Sem.run_bind, hrun, Result.andThen_ok, Sem.run_pure]
  have hR2 := hxs.app hR
  have hle : (rows ++ rows').length = rows.length + rows'.length := List.length_append
  have hat : ∀ (cur' : Array Value), cur'.toList.take ((rows.length + rows'.length) * e) = xs ++ us → ∀ (i : Nat) (r : List PV) (k : Nat) (p : PV), (rows ++ rows')[i]? = some r → r[k]? = some p → ∃ cv, cur'[i * e + k]? = some cv ∧ RP w cx.A p cv := by
    intro cur' h i r k p hi' hk'
    obtain ⟨u, hu, hp⟩ := hR2.2.2 i r k p hi' hk'
    refine ⟨u, ?_, hp⟩
    rw [← h, List.getElem?_take] at hu
    split at hu
    · simpa using hu
    · cases hu
  have hno : ∀ x, (Ef.ap ⟨.c (.sl (d, 0) 0 (rows.length + rows'.length)), [((d, 0), some (.row e (rows ++ rows') true)), (b, none)]⟩ ⟨some d, .call { callee := .builtin .append, args := #[x, y], argTypes := #[t, tx] }, ty, pos, af, gd⟩ st').h (d, 0) = some (.row e (rows ++ rows') true) := fun x => by rw [ap_h2, if_pos rfl]
  have hnil : (cx.upd (d, 0) none).ι (d, 0) = none := by simp [Cx.upd]
  have hsm : ∀ y, (cx.upd (d, 0) (some y)).ι (d, 0) = some y := fun y => by simp [Cx.upd]
  refine upon_ok hrun' ?_
  rcases hcase with ⟨a2, rfl, rfl, h0⟩ | ⟨g, cap, cur, el', cur', h1, h2, rfl, h3, h10, rfl, h11, h12, h13, h14⟩ | ⟨cap, cur', rfl, h2, h3, h10, h11, h12, h13, h14, h15⟩
  · have hrows : rows ++ rows' = [] := List.eq_nil_of_length_eq_zero (by omega)
    refine ⟨cx.upd (d, 0) none, step_move hr hd (b := (d, 0)) (hd d rfl) hfr ⟨_, hb'⟩ (Keeps.refl _ _) rfl rfl rfl (fun _ _ _ => rfl) (fun g q h => by cases h) ⟨he, by rw [hrows]; simp, by rw [hnil]; exact hrows⟩ ?_⟩
    have := hno x
    rw [hrows, h0] at this ⊢
    exact rel_nil_rt this
  · cases h1
    obtain ⟨hι, hnA⟩ := hιb g rfl h14
    have hk2 : Keeps cx.A w (w.setRow g cur') := ⟨by simp, fun g' hA _ => setRow_other w g g' cur' (fun e => hnA (e ▸ hA))⟩
    refine ⟨cx.upd (d, 0) (some (g, 0)), step_move hr hd (b := (d, 0)) (hd d rfl) hfr ⟨_, hb'⟩ hk2 rfl rfl rfl (fun g' h _ => setRow_other w g g' cur' (fun e => h 0 (by rw [e]; exact hι))) (fun g' q h => by cases h; exact .inl ⟨⟨0, hι⟩, by simpa using (Array.getElem?_eq_some_iff.1 h2).1⟩) ⟨he, hR2.2.1, ?_⟩ ⟨.inr rfl, fun bk hbk => ?_⟩⟩
    · rw [hsm]
      exact ⟨rfl, cur', el', (0, 0), cap0, setRow_heap w g cur cur' el' _ h2, fun _ => ⟨rfl, hnA⟩, (fun h => by cases h), by rw [h11, h12], by rw [hle]; exact h3, h10, fun i r k p hi' hk' => let ⟨cv, hc, hp⟩ := hat cur' h13 i r k p hi' hk'; ⟨cv, hc, hp.keeps (fun _ h => h) hk2⟩⟩
    · rw [hno x] at hbk
      cases hbk
      exact ⟨_, _, rfl, h3, h10, by simp [Bk.len], .inr ⟨g, cur', el', (0, 0), hsm _, by simp, setRow_heap w g cur cur' el' _ h2, fun _ => by simp only [Bk.e]; rw [h11, h12, Nat.zero_add]⟩⟩
  · refine ⟨cx.upd (d, 0) (some (w.heap.size, 0)), step_move hr hd (b := (d, 0)) (hd d rfl) hfr ⟨_, hb'⟩ (keeps_push h10) h11 h12 h13 (fun g' _ h => push_old h10 h) (fun g' q h => by cases h; exact .inr ⟨rfl, by rw [h10]; simp⟩) ⟨he, hR2.2.1, ?_⟩ ⟨.inr rfl, fun bk hbk => ?_⟩⟩
    · rw [hsm]
      exact ⟨rfl, cur', el, (0, 0), cap, push_new h10, fun _ => ⟨rfl, fun h => by have := (hr.A _ h).1; omega⟩, (fun h => by cases h), h14, by rw [hle]; exact h2, h3, fun i r k p hi' hk' => let ⟨cv, hc, hp⟩ := hat cur' h15 i r k p hi' hk'; ⟨cv, hc, hp.keeps (fun _ h => h) (keeps_push h10)⟩⟩
    · rw [hno x] at hbk
      cases hbk
      exact ⟨_, _, rfl, h2, h3, by simp [Bk.len], .inr ⟨w.heap.size, cur', el, (0, 0), hsm _, by simp, push_new h10, fun _ => by simp only [Bk.e]; rw [h14, Nat.zero_add]⟩⟩
/-- A store into an element. -/
theorem opL_store_row {x y : Operand} {t : TypeId} {te : TE} {b : Bid} {i k e : Nat} {rows rows' : List (List PV)} {r r' ps : List PV} {v : TV} {dst : Option Nat} (hx : st.ev x = .c (.ptr b i k)) (hb : st.h b = some (.row e rows true)) (hi : rows[i]? = some r) (hv : st.ev y = v) (hk : v.known = true) (hps : v.cells = ps.map .p)
    (ht : lkN T.ty t = some te) (hsz : ps.length = te.size) (hin : k + ps.length ≤ e) (hr' : setAt r k ps = r') (hrows : rows.set i r' = rows') (hcx : okC x = true) (hcy : okC y = true) :
    OpL E N P ops ⟨dst, .store t x y, ty, pos, af, gd⟩ st ⟨[b], []⟩ ⟨.c .any, [(b, some (.row e rows' true))]⟩ := by
  intro st' ha hf hd cx a w Q hr
  have he := hr.ev hcy
  rw [ev_agree ha (by simp [Op.operands]), hv] at he
  have hrl := cells_of hk he
  rw [hps] at hrl
  obtain ⟨-, h4⟩ := evc hx hcx ha (by simp [Op.operands]) hr
  have hb' : st'.h b = some (.row e rows true) := by rw [ha.2 b (by simp)]; exact hb
  obtain ⟨g, q, h5, h6⟩ := h4 _ hb'
  have hbl := hr.bl b _ hb'
  obtain ⟨h7, h8, h9⟩ := hbl
  rw [h5] at h9
  obtain ⟨rfl, c, el, fz, capR, h10, h11, h12, h13, h14, h15, h16⟩ := h9
  obtain ⟨rfl, hnA⟩ := h11 rfl
  have hil := (List.getElem?_eq_some_iff.1 hi).1
  have hrl2 := h8 r (List.mem_of_getElem? hi)
  have h6' : a.eval x = .pointer (some ⟨g, i * e + k, none⟩) := by simpa [Bk.e] using h6
  have hcl : (a.eval y).cells.size = ps.length := by have := hrl.1; simpa using this
  have hbig : i * e + e ≤ c.size := by
    have : (i + 1) * e ≤ capR * e := Nat.mul_le_mul_right e (by omega)
    rw [Nat.add_mul] at this
    omega
  have hrun := run_storeVar (w := w) (g := g) (q := i * e + k) (u := a.eval y) ht (by rw [hcl, hsz]) h10 (by omega) (rl_one hrl)
  obtain ⟨c2, hc2⟩ : ∃ c2, c2 = (c.toList.take (i * e + k) ++ (a.eval y).cells.toList ++ c.toList.drop (i * e + k + (a.eval y).cells.size)).toArray := ⟨_, rfl⟩
  rw [← hc2] at hrun
  have hlen : c2.size = c.size := by rw [hc2]; simp; omega
  refine upon_skip (w' := w.setRow g c2) (by simp only [execOp, h6', Sem.run_bind, Instr.storeAt, Instr.sureAddr, Sem.run_pure, Result.andThen_ok, hrun]) ⟨cx, ?_⟩
  have hkeep : Keeps cx.A w (w.setRow g c2) := ⟨by simp, fun g' hA _ => setRow_other w g g' c2 (fun e => hnA (e ▸ hA))⟩
  have hr'l : r'.length = e := by rw [← hr', setAt_len r k ps (by omega)]; exact hrl2
  refine step_write (t := .c .any) (bk' := .row e rows' true) hr hd hb' rfl (by simp [Bk.len, ← hrows]) h5 hnA h10 rfl hlen ⟨h7, ?_, ?_⟩ ⟨.inl rfl, trivial⟩
  · intro r2 hr2
    rw [← hrows] at hr2
    rcases List.mem_or_eq_of_mem_set hr2 with h | h
    · exact h8 r2 h
    · rw [h]; exact hr'l
  · rw [h5]
    refine ⟨rfl, c2, el, (0, 0), capR, setRow_heap w g c c2 el _ h10, fun _ => ⟨rfl, hnA⟩, (fun h => by cases h), by rw [hlen]; exact h13, by rw [← hrows]; simpa using h14, h15, fun i2 r2 k2 p2 hi2 hk2 => ?_⟩
    have hidx : ∀ j, c2[j]? = if j < i * e + k ∨ i * e + k + ps.length ≤ j then c[j]? else (a.eval y).cells[j - (i * e + k)]? := by
      intro j
      have h17 := setAt_eq c.toList (i * e + k) (a.eval y).cells.toList (by simp; omega)
      rw [hc2, show i * e + k + (a.eval y).cells.size = i * e + k + (a.eval y).cells.toList.length by simp, ← h17, List.getElem?_toArray, setAt_at _ _ _ (by simp; omega)]
      simp only [Array.length_toList, hcl, Array.getElem?_toList]
    have hk2l : k2 < e := by
      have h1 := (List.getElem?_eq_some_iff.1 hk2).1
      have : r2.length = e := by
        rw [← hrows] at hi2
        rcases List.mem_or_eq_of_mem_set (List.mem_of_getElem? hi2) with h | h
        · exact h8 r2 h
        · rw [h]; exact hr'l
      omega
    rw [← hrows, List.getElem?_set] at hi2
    rw [hidx]
    by_cases e1 : i = i2
    · rw [if_pos e1, if_pos hil] at hi2
      cases hi2
      subst e1
      rw [← hr', setAt_at r k ps (by omega)] at hk2
      by_cases h17 : k2 < k ∨ k + ps.length ≤ k2
      · rw [if_pos h17] at hk2
        rw [if_pos (by omega)]
        obtain ⟨cv, h18, h19⟩ := h16 i r k2 p2 hi hk2
        exact ⟨cv, h18, h19.keeps (fun _ h => h) hkeep⟩
      · rw [if_neg h17] at hk2
        rw [if_neg (by omega)]
        obtain ⟨u, h18, h19, h20⟩ := hrl.2 (k2 - k) (.p p2) (by rw [List.getElem?_map, hk2]; rfl)
        refine ⟨u, ?_, RP.keeps h20 (fun _ h => h) hkeep⟩
        rw [← h18]
        congr 1
        omega
    · rw [if_neg e1] at hi2
      have hi2l := (List.getElem?_eq_some_iff.1 hi2).1
      have hout : i2 * e + k2 < i * e + k ∨ i * e + k + ps.length ≤ i2 * e + k2 := by
        rcases Nat.lt_or_gt_of_ne e1 with h | h
        · right
          have : (i + 1) * e ≤ i2 * e := Nat.mul_le_mul_right e h
          rw [Nat.add_mul] at this
          omega
        · left
          have : (i2 + 1) * e ≤ i * e := Nat.mul_le_mul_right e h
          rw [Nat.add_mul] at this
          omega
      rw [if_pos hout]
      obtain ⟨cv, h18, h19⟩ := h16 i2 r2 k2 p2 hi2 hk2
      exact ⟨cv, h18, h19.keeps (fun _ h => h) hkeep⟩
end
end Go.Proofs.Ythlaenafkihjiaa
/- Code over abstract worlds: regions, branches, loops, what is forgotten. Conditions: those of the rules. -/
namespace Go.Proofs.Ythlaenafkihjiaa
open Go.RowKit
set_option linter.unusedVariables false
set_option linter.unusedSimpArgs false
section
variable {E : En} {N : Nat} {P : Program} {Q : Exit → St → Prop} {st : St}
/-- From every world that st stands for, the code ends as Q says. -/
def AW (E : En) (N : Nat) (P : Program) (c : Code) (Q : Exit → St → Prop) (st : St) : Prop :=
  ∀ cx a w, Rel E N cx st a w → c.wp P (fun e a' w' => ∃ st' cx', Q e st' ∧ Rel E N cx' st' a' w') a w
def thenQ (Q : Exit → St → Prop) (k : St → Prop) : Exit → St → Prop
  | .normal, st => k st
  | e, st => Q e st
def blkQ (id : Nat) (Q : Exit → St → Prop) : Exit → St → Prop
  | .exit i, st => match Nat.beq i id with
    | true => Q .normal st
    | false => Q (.exit i) st
  | e, st => Q e st
theorem aw_mono {c : Code} {Q' : Exit → St → Prop} (h : AW E N P c Q st) (hq : ∀ e st, Q e st → Q' e st) : AW E N P c Q' st :=
  fun cx a w hr => wp_mono (h cx a w hr) fun e a' w' ⟨st', cx', h1, h2⟩ => ⟨st', cx', hq _ _ h1, h2⟩
theorem aw_seq {x y : Code} (h : AW E N P x (thenQ Q (AW E N P y Q)) st) : AW E N P (.seq x y) Q st := by
  intro cx a w hr
  refine wp_seq (wp_mono (h cx a w hr) ?_)
  rintro e a' w' ⟨st', cx', h1, h2⟩
  cases e with
  | normal => exact h1 cx' a' w' h2
  | _ => exact ⟨st', cx', h1, h2⟩
theorem aw_skip (h : Q .normal st) : AW E N P .skip Q st := fun cx a w hr => wp_skip ⟨st, cx, h, hr⟩
theorem aw_label {l : Nat} (h : Q .normal st) : AW E N P (.label l) Q st := fun cx a w hr => wp_label ⟨st, cx, h, hr⟩
theorem aw_exit {id : Nat} (h : Q (.exit id) st) : AW E N P (.exit id) Q st := fun cx a w hr => wp_exit ⟨st, cx, h, hr⟩
theorem aw_ret (h : Q .ret st) : AW E N P .ret Q st := fun cx a w hr => wp_ret ⟨st, cx, h, hr⟩
theorem ev_bool {c : Operand} {b : Bool} {cx : Cx} {a : Act} {w : World} (hb : st.ev c = .c (.p (.v (.bool b)))) (hc : okC c = true) (hr : Rel E N cx st a w) : a.eval c = .bool b := by
  have := hr.ev hc
  rw [hb] at this
  have h2 := this.2
  revert h2
  generalize a.eval c = z
  intro h2
  cases h2 with | v _ _ => rfl
theorem aw_cond {c : Operand} {x y : Code} {b : Bool} (hb : st.ev c = .c (.p (.v (.bool b)))) (hc : okC c = true) (ht : b = true → AW E N P x Q st) (hf : b = false → AW E N P y Q st) : AW E N P (.cond c x y) Q st :=
  fun cx a w hr => wp_cond_split (ev_bool hb hc hr) (fun h => ht h cx a w hr) (fun h => hf h cx a w hr)
theorem aw_cond_t {c : Operand} {x y : Code} (hb : st.ev c = .c (.p (.v (.bool true)))) (hc : okC c = true) (ht : AW E N P x Q st) : AW E N P (.cond c x y) Q st :=
  aw_cond hb hc (fun _ => ht) (fun h => by cases h)
theorem aw_cond_f {c : Operand} {x y : Code} (hb : st.ev c = .c (.p (.v (.bool false)))) (hc : okC c = true) (hf : AW E N P y Q st) : AW E N P (.cond c x y) Q st :=
  aw_cond hb hc (fun h => by cases h) (fun _ => hf)
theorem aw_block {id : Nat} {c : Code} (h : AW E N P c (blkQ id Q) st) : AW E N P (.block id c) Q st := by
  intro cx a w hr
  refine wp_block (wp_mono (h cx a w hr) ?_)
  rintro e a' w' ⟨st', cx', h1, h2⟩
  cases e with
  | exit i =>
    simp only [Exit.inBlock]
    simp only [blkQ] at h1
    by_cases hi : i = id
    · rw [if_pos hi]
      have hb : Nat.beq i id = true := by rw [hi]; simp
      rw [hb] at h1; exact ⟨st', cx', h1, h2⟩
    · rw [if_neg hi]
      have hb : Nat.beq i id = false := by
        cases hx : Nat.beq i id with
        | false => rfl
        | true => exact absurd (Nat.eq_of_beq_eq_true hx) hi
      rw [hb] at h1; exact ⟨st', cx', h1, h2⟩
  | _ => exact ⟨st', cx', h1, h2⟩
theorem wp_loop_k {c : Code} {Q : Exit → Act → World → Prop} (I : Nat → Act → World → Prop) (round : ∀ k a w, I k a w → c.wp P (Exit.then (fun a' w' => ∃ k', k' < k ∧ I k' a' w') Q) a w) : ∀ k a w, I k a w → (Code.loop c).wp P Q a w := by
  intro k a w h₀ b kk cs
  have key : ∀ n a w, I n a w → ∃ e a' w', Q e a' w' ∧ Arrives P (lone (b.at a (.code c :: .inLoop c :: kk)) cs w) b kk cs e a' w' := by
    intro n
    induction n using Nat.strongRecOn with
    | _ n ih =>
      intro a w hI
      obtain ⟨e, a₁, w₁, hq, harr⟩ := round n a w hI b (.inLoop c :: kk) cs
      cases e with
      | normal =>
        obtain ⟨k', hlt, hI₁⟩ := hq
        obtain ⟨e₂, a₂, w₂, hq₂, harr₂⟩ := ih k' hlt a₁ w₁ hI₁
        exact ⟨e₂, a₂, w₂, hq₂, .of_steps (Steps.trans harr (.one step_inLoop)) harr₂⟩
      | exit id => exact ⟨_, a₁, w₁, hq, .pass (x := .inLoop c) rfl (fun _ _ => .inl (by simp)) harr⟩
      | goto l => exact ⟨_, a₁, w₁, hq, .pass (x := .inLoop c) rfl (fun _ _ => .inl (by simp)) harr⟩
      | ret => exact ⟨_, a₁, w₁, hq, .pass (x := .inLoop c) rfl (fun _ _ => .inl (by simp)) harr⟩
      | panic ch => exact ⟨_, a₁, w₁, hq, .pass (x := .inLoop c) rfl (fun _ _ => .inl (by simp)) harr⟩
      | outgrown => exact ⟨_, a₁, w₁, hq, .pass (x := .inLoop c) rfl (fun _ _ => .inl (by simp)) harr⟩
  obtain ⟨e, a', w', hq, harr⟩ := key k a w h₀
  exact ⟨e, a', w', hq, .of_steps (.one step_loop) harr⟩
/-- A loop: k rounds at most are to come. -/
theorem aw_loop {c : Code} (I : Nat → St → Prop) (h : ∀ k st, I k st → AW E N P c (thenQ Q fun st' => ∃ k', k' < k ∧ I k' st') st) {k : Nat} (h0 : I k st) : AW E N P (.loop c) Q st := by
  intro cx a w hr
  refine wp_loop_k (fun k a w => ∃ st cx, I k st ∧ Rel E N cx st a w) ?_ k a w ⟨st, cx, h0, hr⟩
  rintro k a w ⟨st, cx, h1, h2⟩
  refine wp_mono (h k st h1 cx a w h2) ?_
  rintro e a' w' ⟨st', cx', h3, h4⟩
  cases e with
  | normal => obtain ⟨k', h5, h6⟩ := h3; exact ⟨k', h5, st', cx', h6, h4⟩
  | _ => exact ⟨st', cx', h3, h4⟩
/-- A loop whose heads are S 0, S 1, .., S n. -/
theorem aw_for {c : Code} (S : Nat → St) (n : Nat) (h : ∀ j, j ≤ n → AW E N P c (thenQ Q fun st' => j < n ∧ st' = S (j + 1)) (S j)) : AW E N P (.loop c) Q (S 0) := by
  refine aw_loop (fun k st => ∃ j, j ≤ n ∧ k = n - j ∧ st = S j) ?_ (k := n) ⟨0, by omega, by omega, rfl⟩
  rintro k st ⟨j, h1, h2, rfl⟩
  refine aw_mono (h j h1) ?_
  intro e st' h3
  cases e with
  | normal => obtain ⟨h4, rfl⟩ := h3; exact ⟨n - (j + 1), by omega, j + 1, by omega, rfl, rfl⟩
  | _ => exact h3
/- Regions. -/
def freshB (b : Bid) (st : St) : Bool := st.fr.all (fun x => !memB x.2.ment b) && st.H.all fun x => match x.2 with
  | none => true
  | some bk => !beqB x.1 b && !memB bk.ment b
theorem freshB_spec {b : Bid} (h : freshB b st = true) : FreshB b st := by
  simp only [freshB, Bool.and_eq_true, List.all_eq_true] at h
  obtain ⟨h1, h2⟩ := h
  refine ⟨?_, fun s hm => ?_, fun b' bk hb hm => ?_⟩
  · unfold St.h
    cases hl : lkB st.H b with
    | none => rfl
    | some x =>
      have := h2 _ (lkB_mem hl)
      cases x with
      | none => rfl
      | some bk => simp [beqB_iff.2 rfl] at this
  · unfold St.g at hm
    cases hl : lkN st.fr s with
    | none => rw [hl] at hm; simp [TV.ment, CV.ment] at hm
    | some t =>
      rw [hl, Option.getD_some] at hm
      have := h1 _ (lkN_mem hl)
      simp only [Bool.not_eq_true'] at this
      rw [memB_iff.2 hm] at this
      cases this
  · unfold St.h at hb
    cases hl : lkB st.H b' with
    | none => rw [hl] at hb; cases hb
    | some x =>
      rw [hl] at hb
      simp only [Option.getD_some] at hb
      subst hb
      have := h2 _ (lkB_mem hl)
      simp only [Bool.and_eq_true, Bool.not_eq_true'] at this
      rw [memB_iff.2 hm] at this
      cases this.2
def freshA (st : St) (acc : List (Fp × Ef)) : Bool := acc.all fun x => x.1.al.all fun b => freshB b st
theorem freshA_spec {acc : List (Fp × Ef)} (h : freshA st acc = true) : ∀ x ∈ acc, ∀ b ∈ x.1.al, FreshB b st := fun x hx b hb => freshB_spec (List.all_eq_true.1 (List.all_eq_true.1 h x hx) b hb)
theorem aw_draw {id : Nat} {l : List Oper} (hm : P.follows .mixedOrders = true) (hS : schS N l = true) (h : Run E N P l.toArray l [] st fun acc st' => chkD l acc.reverse = true ∧ freshA st acc = true ∧ Q .normal st') : AW E N P (.region id l.toArray true) Q st := by
  intro cx a w hr
  obtain ⟨es, st', h1, h2⟩ := run_seq h
  simp only [List.append_nil, List.reverse_reverse] at h2
  obtain ⟨h3, h4, h5⟩ := h2
  refine wp_mono (region_any hm hS h3 h1 (fun i f ef hi b hb => freshA_spec h4 (f, ef) (by simpa using List.mem_of_getElem? hi) b hb) hr) ?_
  rintro e a' w' ⟨rfl, cx', h6⟩
  exact ⟨st', cx', h5, h6⟩
theorem aw_text {id : Nat} {l : List Oper} (hN : chkN N l = true) (h : Run E N P l.toArray l [] st fun acc st' => chkT acc.reverse = true ∧ freshA st acc = true ∧ Q .normal st') : AW E N P (.region id l.toArray false) Q st := by
  intro cx a w hr
  obtain ⟨es, st', h1, h2⟩ := run_seq h
  simp only [List.append_nil, List.reverse_reverse] at h2
  obtain ⟨h3, h4, h5⟩ := h2
  refine wp_mono (region_text hN h3 h1 (fun i f ef hi b hb => freshA_spec h4 (f, ef) (by simpa using List.mem_of_getElem? hi) b hb) hr) ?_
  rintro e a' w' ⟨rfl, cx', h6⟩
  exact ⟨st', cx', h5, h6⟩
/- What is forgotten, and new names of blocks. -/
def CV.ren (σ : List (Bid × Bid)) : CV → CV
  | .ptr b i k => match lkB σ b with
    | some b' => .ptr b' i k
    | none => .any
  | .sl b off n => match lkB σ b with
    | some b' => .sl b' off n
    | none => .any
  | c => c
def TV.ren1 (σ : List (Bid × Bid)) : TV → TV
  | .c x => .c (x.ren σ)
  | .agg cs => .agg (cs.map (CV.ren σ))
  | .tup _ => .c .any
def Bk.ren (σ : List (Bid × Bid)) : Bk → Bk
  | .row e rows mu => .row e rows mu
  | .box cs => .box (cs.map (CV.ren σ))
/-- The slots ks and the blocks of σ, under their new names. -/
def St.norm (ks : List Nat) (σ : List (Bid × Bid)) (st : St) : St := ⟨ks.map fun s => (s, (st.g s).ren1 σ), σ.map fun x => (x.2, (st.h x.1).map (Bk.ren σ))⟩
def nodB : List Bid → Bool
  | [] => true
  | a :: r => !memB r a && nodB r
theorem nodB_spec {l : List Bid} (h : nodB l = true) : ∀ (i j : Nat) (b : Bid), l[i]? = some b → l[j]? = some b → i = j := by
  induction l with
  | nil => intro i j b h; simp at h
  | cons a r ih =>
    simp only [nodB, Bool.and_eq_true, Bool.not_eq_true'] at h
    have hn : a ∉ r := fun hm => by rw [memB_iff.2 hm] at h; cases h.1
    intro i j b hi hj
    cases i with
    | zero =>
      cases j with
      | zero => rfl
      | succ j =>
        rw [List.getElem?_cons_zero] at hi
        rw [List.getElem?_cons_succ] at hj
        cases hi
        exact absurd (List.mem_of_getElem? hj) hn
    | succ i =>
      cases j with
      | zero =>
        rw [List.getElem?_cons_zero] at hj
        rw [List.getElem?_cons_succ] at hi
        cases hj
        exact absurd (List.mem_of_getElem? hi) hn
      | succ j => rw [ih h.2 i j b (by simpa using hi) (by simpa using hj)]
theorem lkB_nod {α : Type} {l : List (Bid × α)} (h : nodB (l.map (·.1)) = true) {b : Bid} {x : α} (hm : (b, x) ∈ l) : lkB l b = some x := by
  induction l with
  | nil => cases hm
  | cons y r ih =>
    obtain ⟨c, z⟩ := y
    simp only [List.map_cons, nodB, Bool.and_eq_true, Bool.not_eq_true'] at h
    rcases List.mem_cons.1 hm with e | hm
    · cases e; simp only [lkB]; rw [beqB_iff.2 rfl]
    · simp only [lkB]
      have : beqB c b = false := by
        cases hb : beqB c b with
        | false => rfl
        | true =>
          have e := beqB_iff.1 hb
          subst e
          rw [memB_iff.2 (List.mem_map.2 ⟨_, hm, rfl⟩)] at h
          cases h.1
      rw [this]
      exact ih h.2 hm
/-- The names are apart, and the pointer's variable keeps its own. -/
def okS (σ : List (Bid × Bid)) : Bool := nodB (σ.map (·.1)) && nodB (σ.map (·.2)) && σ.all fun x => beqB x.1 pinB == beqB x.2 pinB
theorem Rel.norm {cx : Cx} {a : Act} {w : World} {ks : List Nat} {σ : List (Bid × Bid)} (hσ : okS σ = true) (hr : Rel E N cx st a w) : ∃ cx', Rel E N cx' (st.norm ks σ) a w := by
  simp only [okS, Bool.and_eq_true] at hσ
  obtain ⟨⟨h1, h2⟩, hp⟩ := hσ
  -- the elder name of a new one
  have hback : ∃ β : Bid → Option Bid, (∀ b b', (b, b') ∈ σ → β b' = some b) ∧ ∀ b' b, β b' = some b → (b, b') ∈ σ := by
    refine ⟨fun b' => lkB (σ.map fun x => (x.2, x.1)) b', fun b b' hm => lkB_nod (by rw [List.map_map]; exact h2) (List.mem_map.2 ⟨(b, b'), hm, rfl⟩), fun b' b hb => ?_⟩
    have := lkB_mem hb
    rw [List.mem_map] at this
    obtain ⟨x, hx, e⟩ := this
    cases e
    exact hx
  obtain ⟨β, hβ1, hβ2⟩ := hback
  have hnh : ∀ b' bk', (st.norm ks σ).h b' = some bk' → ∃ b bk, β b' = some b ∧ st.h b = some bk ∧ bk' = bk.ren σ ∧ (b, b') ∈ σ := by
    intro b' bk' hb
    unfold St.h St.norm at hb
    cases hl : lkB (σ.map fun x => (x.2, (st.h x.1).map (Bk.ren σ))) b' with
    | none => rw [hl] at hb; cases hb
    | some y =>
      rw [hl] at hb
      simp only [Option.getD_some] at hb
      subst hb
      have := lkB_mem hl
      rw [List.mem_map] at this
      obtain ⟨⟨b, b2⟩, hx, e⟩ := this
      simp only [Prod.mk.injEq] at e
      obtain ⟨rfl, e2⟩ := e
      rw [Option.map_eq_some_iff] at e2
      obtain ⟨bk, h3, h4⟩ := e2
      exact ⟨b, bk, hβ1 b b2 hx, h3, h4.symm, hx⟩
  have hlk : ∀ b b', (b, b') ∈ σ → lkB σ b = some b' := fun b b' hm => lkB_nod h1 hm
  have hre : ∀ bk : Bk, (bk.ren σ).e = bk.e ∧ (bk.ren σ).len = bk.len := fun bk => by cases bk <;> exact ⟨rfl, rfl⟩
  let cx' : Cx := ⟨fun b' => if b' = pinB then cx.ι b' else (β b').bind cx.ι, cx.A⟩
  have hpin : ∀ b b', (b, b') ∈ σ → b' = pinB → b = pinB := by
    intro b b' hm e
    have := List.all_eq_true.1 hp (b, b') hm
    simp only [beq_iff_eq] at this
    exact beqB_iff.1 (by rw [this]; exact beqB_iff.2 e)
  have hι : ∀ b b', β b' = some b → cx'.ι b' = cx.ι b := fun b b' h => by
    show (if b' = pinB then cx.ι b' else (β b').bind cx.ι) = _
    by_cases e : b' = pinB
    · rw [if_pos e, hpin b b' (hβ2 b' b h) e, e]
    · rw [if_neg e, h]; rfl
  have hpi : cx'.ι pinB = cx.ι pinB := by
    show (fun b' => if b' = pinB then cx.ι b' else (β b').bind cx.ι) pinB = _
    exact if_pos rfl
  have hRC : ∀ (c : CV) (v : Value), RC cx w st.h c v → RC cx' w (st.norm ks σ).h (c.ren σ) v := by
    intro c v hc
    cases c with
    | any => trivial
    | p x => exact hc
    | ep row k => exact hc
    | ptr b i k =>
      simp only [CV.ren]
      cases hl : lkB σ b with
      | none => trivial
      | some b' =>
        intro bk' hbk
        obtain ⟨b2, bk, h3, h4, rfl, h5⟩ := hnh b' bk' hbk
        have hm := lkB_mem hl
        have : β b' = some b := hβ1 b b' hm
        rw [this] at h3
        cases h3
        obtain ⟨g, o, h6, h7⟩ := hc bk h4
        exact ⟨g, o, by rw [hι b b' this]; exact h6, by rw [(hre bk).1]; exact h7⟩
    | sl b off n =>
      simp only [CV.ren]
      cases hl : lkB σ b with
      | none => trivial
      | some b' =>
        intro bk' hbk
        obtain ⟨b2, bk, h3, h4, rfl, h5⟩ := hnh b' bk' hbk
        have hm := lkB_mem hl
        have : β b' = some b := hβ1 b b' hm
        rw [this] at h3
        cases h3
        obtain ⟨a', cap, h6, h7, h8, h9, h10⟩ := hc bk h4
        refine ⟨a', cap, h6, h7, h8, by rw [(hre bk).2]; exact h9, ?_⟩
        rw [(hre bk).1, hι b b' this]
        exact h10
  have hone : ∀ (c : CV) (v : Value), (c = .any ∨ v.oneCell' = true) → (c.ren σ = .any ∨ v.oneCell' = true) := by
    rintro c v (rfl | h)
    · exact .inl rfl
    · exact .inr h
  have hRL : ∀ (cs : List CV) (vs : Array Value), RL cx w st.h cs vs → RL cx' w (st.norm ks σ).h (cs.map (CV.ren σ)) vs := by
    intro cs vs h
    refine ⟨by rw [h.1]; simp, fun i c hc => ?_⟩
    rw [List.getElem?_map, Option.map_eq_some_iff] at hc
    obtain ⟨c0, hc0, rfl⟩ := hc
    obtain ⟨u, hu, h3, h4⟩ := h.2 i c0 hc0
    exact ⟨u, hu, h3, hRC c0 u h4⟩
  refine ⟨cx', hr.defers, hr.size, fun s => ?_, fun b' bk' hb => ?_, fun b b' g o g' o' hb hb' hi hi' hne => ?_, fun b g o hb hi => ?_, hr.A, hr.A0, hr.kept, hr.sz, hr.os, hr.tape, hr.output, hr.hN, hpi.trans hr.pin⟩
  · have hg : (st.norm ks σ).g s = (st.g s).ren1 σ ∨ (st.norm ks σ).g s = .c .any := by
      unfold St.g St.norm
      cases hl : lkN (ks.map fun s => (s, (st.g s).ren1 σ)) s with
      | none => exact .inr rfl
      | some y =>
        have := lkN_mem hl
        rw [List.mem_map] at this
        obtain ⟨s', _, e⟩ := this
        cases e
        exact .inl rfl
    rcases hg with hg | hg
    · rw [hg]
      have := hr.fr s
      revert this
      cases st.g s with
      | c x => exact fun h => ⟨hone x _ h.1, hRC x _ h.2⟩
      | agg cs => rintro ⟨vs, h3, h4⟩; exact ⟨vs, h3, hRL _ _ h4⟩
      | tup ts => exact fun _ => ⟨.inl rfl, trivial⟩
    · rw [hg]; exact ⟨.inl rfl, trivial⟩
  · obtain ⟨b, bk, h3, h4, rfl, h5⟩ := hnh b' bk' hb
    have := hr.bl b bk h4
    cases bk with
    | row e rows mu =>
      obtain ⟨h6, h7, h8⟩ := this
      exact ⟨h6, h7, by rw [hι b b' h3]; exact h8⟩
    | box cs =>
      obtain ⟨g, o, c, el, h6, h7, h8, h9, h10⟩ := this
      refine ⟨g, o, c, el, by rw [hι b b' h3]; exact h6, h7, h8, by simpa using h9, fun k x hx => ?_⟩
      rw [List.getElem?_map, Option.map_eq_some_iff] at hx
      obtain ⟨x0, hx0, rfl⟩ := hx
      obtain ⟨cv, h11, h12, h13⟩ := h10 k x0 hx0
      exact ⟨cv, h11, h12, hRC x0 cv h13⟩
  · obtain ⟨bk, hbk⟩ := Option.ne_none_iff_exists'.1 hb
    obtain ⟨bk', hbk'⟩ := Option.ne_none_iff_exists'.1 hb'
    obtain ⟨c, k, h3, h4, _, h5⟩ := hnh b bk hbk
    obtain ⟨c', k', h6, h7, _, h8⟩ := hnh b' bk' hbk'
    rw [hι c b h3] at hi
    rw [hι c' b' h6] at hi'
    refine hr.inj c c' g o g' o' (by rw [h4]; simp) (by rw [h7]; simp) hi hi' ?_
    rintro rfl
    have e1 := hlk c b h5
    have e2 := hlk c b' h8
    rw [e1] at e2
    exact hne (Option.some.inj e2)
  · obtain ⟨bk, hbk⟩ := Option.ne_none_iff_exists'.1 hb
    obtain ⟨c, k, h3, h4, _, h5⟩ := hnh b bk hbk
    rw [hι c b h3] at hi
    exact hr.own c g o (by rw [h4]; simp) hi
theorem aw_norm {c : Code} (ks : List Nat) (σ : List (Bid × Bid)) (h1 : okS σ = true) (h : AW E N P c Q (st.norm ks σ)) : AW E N P c Q st := by
  intro cx a w hr
  obtain ⟨cx', hr'⟩ := hr.norm (ks := ks) h1
  exact h cx' a w hr'
end
end Go.Proofs.Ythlaenafkihjiaa
/- Contracts of functions over abstract worlds. No condition. -/
namespace Go.Proofs.Ythlaenafkihjiaa
open Go.RowKit
set_option linter.unusedVariables false
set_option linter.unusedSimpArgs false
/-- What a cell of a result is: a tree, or rows that nobody else has. -/
inductive RV where
  | p (x : PV)
  | own (e : Nat) (rows : List (List PV))
/-- A result. -/
inductive RS where
  | c (x : RV)
  | agg (cs : List RV)
/-- An argument: a tree, a struct, a pointer to a variable. -/
inductive AV where
  | c (x : PV)
  | agg (xs : List PV)
  | ref (cs : List RV)
def RS.cells : RS → List RV
  | .c x => [x]
  | .agg cs => cs
def OwnR (w : World) (A : Nat → Prop) (go : Option Nat) (e : Nat) (rows : List (List PV)) (v : Value) : Prop :=
  0 < e ∧ (∀ r ∈ rows, r.length = e) ∧ ∃ a cap, v = .slice a rows.length cap ∧ rows.length ≤ cap ∧ cap ≤ maxLen ∧
    (cap = 0 ∨ ∃ g c el, go = some g ∧ a = some ⟨g, 0, none⟩ ∧ ¬ A g ∧ w.heap[g]? = some (.cells c el (0, 0)) ∧ c.size = cap * e ∧ ∀ (i : Nat) (r : List PV) (k : Nat) (p : PV), rows[i]? = some r → r[k]? = some p → ∃ cv, c[i * e + k]? = some cv ∧ RP w A p cv)
def RVr (w : World) (A : Nat → Prop) (go : Option Nat) : RV → Value → Prop
  | .p x, v => RP w A x v
  | .own e rows, v => OwnR w A go e rows v
def CsR (w : World) (A : Nat → Prop) (gs : Nat → Option Nat) : Nat → List RV → List Value → Prop
  | _, [], [] => True
  | n, x :: r, u :: us => u.oneCell' = true ∧ RVr w A (gs n) x u ∧ CsR w A gs (n + 1) r us
  | _, _, _ => False
def RSr (w : World) (A : Nat → Prop) (gs : Nat → Option Nat) (n : Nat) : RS → Value → Prop
  | .c x, v => CsR w A gs n [x] [v]
  | .agg cs, v => ∃ vs, v = .agg vs ∧ CsR w A gs n cs vs.toList
def TsR (w : World) (A : Nat → Prop) (gs : Nat → Option Nat) : Nat → List RS → List Value → Prop
  | _, [], [] => True
  | n, t :: ts, v :: vs => RSr w A gs n t v ∧ TsR w A gs (n + t.cells.length) ts vs
  | _, _, _ => False
def ValR (w : World) (A : Nat → Prop) (gs : Nat → Option Nat) : List RS → Value → Prop
  | [t], v => RSr w A gs 0 t v
  | ts, v => ∃ vs, v = .tuple vs ∧ TsR w A gs 0 ts vs.toList
def flatR (r : List RS) : List RV := r.flatMap RS.cells
def AVr (w : World) (A : Nat → Prop) (gs : Nat → Option Nat) (g q : Nat) : AV → Value → Prop
  | .c x, v => RP w A x v
  | .agg xs, v => ∃ vs, v = .agg vs ∧ CsR w A (fun _ => none) 0 (xs.map .p) vs.toList
  | .ref cs, v => v = .pointer (some ⟨g, q, none⟩) ∧ ∃ c el, w.heap[g]? = some (.cells c el (0, 0)) ∧ ¬ A g ∧ q + cs.length ≤ c.size ∧ CsR w A gs 0 cs ((c.toList.drop q).take cs.length)
def AsR (w : World) (A : Nat → Prop) (gs : Nat → Option Nat) (g q : Nat) : List AV → List Value → Prop
  | [], [] => True
  | a :: avs, v :: vs => AVr w A gs g q a v ∧ AsR w A gs g q avs vs
  | _, _ => False
def AV.isRef : AV → Bool
  | .ref _ => true
  | _ => false
def inj1 (gs : Nat → Option Nat) : Prop := ∀ n m x, gs n = some x → gs m = some x → n = m
/-- A call of the function is entered. -/
def entB (P : Program) (f : FuncId) : Bool := match P.funcs[f]? with
  | some fn => fn.name != "runtime.NumGoroutine" && fn.body.isSome
  | none => false
/-- The function, called with the arguments avs, returns r, and leaves out behind the pointer among them. -/
structure Contract (P : Program) (f : FuncId) (avs : List AV) (r : List RS) (out : List RV) : Prop where
  ent : entB P f = true
  run : ∀ (A : Nat → Prop) (gs : Nat → Option Nat) (g q : Nat) (w : World) (vs : Array Value), (∀ x, A x → x < w.heap.size) → inj1 gs → (∀ n x, gs n = some x → x < w.heap.size ∧ x ≠ g) → ((avs.any AV.isRef) = false → (∀ n, gs n = none) ∧ g = w.heap.size) → AsR w A gs g q avs vs.toList →
    Calls P f vs w fun e w' => ∃ v A' gs', e = .returned v ∧ (∀ x, A x → A' x) ∧ (∀ x, A' x → A x ∨ x < w'.heap.size ∧ (w.heap.size ≤ x ∨ ∃ n, gs n = some x)) ∧ w.heap.size ≤ w'.heap.size ∧
      (∀ x, x < w.heap.size → x ≠ g → (∀ n, gs n ≠ some x) → w'.heap[x]? = w.heap[x]?) ∧ w'.os = w.os ∧ w'.tape = w.tape ∧ w'.output = w.output ∧ inj1 gs' ∧
      (∀ n x, gs' n = some x → x < w'.heap.size ∧ ((avs.any AV.isRef) = true → x ≠ g) ∧ (w.heap.size ≤ x ∨ ∃ m, gs m = some x)) ∧ ValR w' A' gs' r v ∧
      ((avs.any AV.isRef) = true → ¬ A' g ∧ ∃ c el, w'.heap[g]? = some (.cells c el (0, 0)) ∧ q + out.length ≤ c.size ∧ CsR w' A' gs' (flatR r).length out ((c.toList.drop q).take out.length))
theorem csR_at {w : World} {A : Nat → Prop} {gs : Nat → Option Nat} : ∀ {n : Nat} {cs : List RV} {us : List Value}, CsR w A gs n cs us → us.length = cs.length ∧ ∀ (k : Nat) (x : RV), cs[k]? = some x → ∃ u, us[k]? = some u ∧ u.oneCell' = true ∧ RVr w A (gs (n + k)) x u := by
  intro n cs
  induction cs generalizing n with
  | nil =>
    intro us h
    cases us with
    | nil => exact ⟨rfl, fun k x h => by simp at h⟩
    | cons u us => exact h.elim
  | cons x cs ih =>
    intro us h
    cases us with
    | nil => exact h.elim
    | cons u us =>
      obtain ⟨h1, h2, h3⟩ := h
      obtain ⟨h4, h5⟩ := ih h3
      refine ⟨by simp [h4], fun k y hk => ?_⟩
      cases k with
      | zero =>
        rw [List.getElem?_cons_zero] at hk
        cases hk
        exact ⟨u, rfl, h1, h2⟩
      | succ k =>
        obtain ⟨u', hu, h6, h7⟩ := h5 k y (by simpa using hk)
        exact ⟨u', by simpa using hu, h6, by rw [show n + (k + 1) = n + 1 + k by omega]; exact h7⟩
theorem csR_of {w : World} {A : Nat → Prop} {gs : Nat → Option Nat} : ∀ {n : Nat} {cs : List RV} {us : List Value}, us.length = cs.length → (∀ (k : Nat) (x : RV), cs[k]? = some x → ∃ u, us[k]? = some u ∧ u.oneCell' = true ∧ RVr w A (gs (n + k)) x u) → CsR w A gs n cs us := by
  intro n cs
  induction cs generalizing n with
  | nil =>
    intro us hl _
    cases us with
    | nil => trivial
    | cons u us => simp at hl
  | cons x cs ih =>
    intro us hl h
    cases us with
    | nil => simp at hl
    | cons u us =>
      obtain ⟨u', hu, h1, h2⟩ := h 0 x rfl
      rw [List.getElem?_cons_zero] at hu
      cases hu
      refine ⟨h1, h2, ih (by simpa using hl) fun k y hk => ?_⟩
      obtain ⟨u', hu, h3, h4⟩ := h (k + 1) y (by simpa using hk)
      exact ⟨u', by simpa using hu, h3, by rw [show n + 1 + k = n + (k + 1) by omega]; exact h4⟩
/- What a cell hands on. -/
inductive ToC (st : St) : CV → RV → Option Bid → List Bid → Prop
  | p (x : PV) : ToC st (.p x) (.p x) none []
  | nil (e : Nat) : ToC st (.p (.v (.slice none 0 0))) (.p (.l e [])) none []
  | nilo (e : Nat) (he : 0 < e) : ToC st (.p (.v (.slice none 0 0))) (.own e []) none []
  | own {b : Bid} {e n : Nat} {rows : List (List PV)} (hb : st.h b = some (.row e rows true)) (hn : rows.length = n) : ToC st (.sl b 0 n) (.own e rows) (some b) []
  | fr {b : Bid} {e off n : Nat} {rows rows' : List (List PV)} {mu : Bool} (hb : st.h b = some (.row e rows mu)) (hr : (rows.drop off).take n = rows') : ToC st (.sl b off n) (.p (.l e rows')) none [b]
inductive ToCs (st : St) : List CV → List RV → List (Option Bid) → List Bid → Prop
  | nil : ToCs st [] [] [] []
  | cons {c : CV} {x : RV} {o : Option Bid} {b : List Bid} {cs : List CV} {xs : List RV} {os : List (Option Bid)} {bs : List Bid} (h : ToC st c x o b) (hs : ToCs st cs xs os bs) : ToCs st (c :: cs) (x :: xs) (o :: os) (b ++ bs)
inductive ToS (st : St) : TV → RS → List (Option Bid) → List Bid → Prop
  | c {c : CV} {x : RV} {o : Option Bid} {b : List Bid} (h : ToC st c x o b) : ToS st (.c c) (.c x) [o] b
  | agg {cs : List CV} {xs : List RV} {os : List (Option Bid)} {bs : List Bid} (h : ToCs st cs xs os bs) : ToS st (.agg cs) (.agg xs) os bs
inductive ToSs (st : St) : List TV → List RS → List (Option Bid) → List Bid → Prop
  | nil : ToSs st [] [] [] []
  | cons {t : TV} {x : RS} {os os' : List (Option Bid)} {bs bs' : List Bid} {ts : List TV} {xs : List RS} (h : ToS st t x os bs) (hs : ToSs st ts xs os' bs') : ToSs st (t :: ts) (x :: xs) (os ++ os') (bs ++ bs')
section
variable {E : En} {N : Nat} {cx : Cx} {st : St} {a : Act} {w : World} {P : Program}
/-- The rows of a block, avs an immutable list. -/
theorem rp_of_sl {b : Bid} {off n e : Nat} {rows : List (List PV)} {mu : Bool} {v : Value} {A' : Nat → Prop} (hb : st.h b = some (.row e rows mu)) (hR : RB cx w st.h b (.row e rows mu)) (h : RC cx w st.h (.sl b off n) v) (hA : ∀ x, cx.A x → A' x) (hA' : ∀ g o, cx.ι b = some (g, o) → A' g) : RP w A' (.l e ((rows.drop off).take n)) v := by
  obtain ⟨a', cap, rfl, h1, h2, h3, h4⟩ := h _ hb
  obtain ⟨he, hre, hrb⟩ := hR
  simp only [Bk.len] at h3
  simp only [Bk.e] at h4
  have hlen : ((rows.drop off).take n).length = n := by rw [List.length_take, List.length_drop]; omega
  have hat : ∀ (i : Nat) (r : List PV), ((rows.drop off).take n)[i]? = some r → rows[off + i]? = some r := by
    intro i r hi
    rw [List.getElem?_take] at hi
    split at hi
    · rwa [List.getElem?_drop] at hi
    · cases hi
  rcases h4 with h4 | ⟨g, c, el, fz, h5, rfl, h6, h7⟩
  · have hn : n = 0 := by omega
    subst hn
    have key := RP.l (w := w) (A := A') e [] a' cap (fun _ _ => .bool false) (by simp) h2 (by simp) (.inl rfl) (by simp)
    simpa using key
  · rw [h5] at hrb
    obtain ⟨-, c', el', fz', capR, h8, h9, h10, h11, h12, h13, h14⟩ := hrb
    rw [h6] at h8
    cases h8
    have key := RP.l (w := w) (A := A') e ((rows.drop off).take n) (some ⟨g, off * e, none⟩) cap (fun i k => (c[(off + i) * e + k]?).getD undef) (by omega) h2 (fun r hr => hre r (List.mem_of_mem_drop (List.mem_of_mem_take hr))) ?_ ?_
    · rw [hlen] at key; exact key
    · refine .inr ⟨g, off * e, rfl, hA' g 0 h5, (Array.getElem?_eq_some_iff.1 h6).1, fun i r k p hi hk => ?_⟩
      obtain ⟨cv, hcv, hp⟩ := h14 (off + i) r k p (hat i r hi) hk
      rw [World.cell?, h6]
      have : off * e + i * e + k = (off + i) * e + k := by rw [Nat.add_mul]
      simp [this, hcv]
    · intro i r k p hi hk
      obtain ⟨cv, hcv, hp⟩ := h14 (off + i) r k p (hat i r hi) hk
      rw [hcv]
      exact hp.mono hA (Nat.le_refl _) (fun _ _ _ => rfl)
theorem rp_nil {A : Nat → Prop} (e : Nat) : RP w A (.l e []) (.slice none 0 0) := by
  have key := RP.l (w := w) (A := A) e [] none 0 (fun _ _ => .bool false) (by simp) (by unfold maxLen; omega) (by simp) (.inl rfl) (by simp)
  simpa using key
def goOf (cx : Cx) (o : Option Bid) : Option Nat := o.bind fun b => (cx.ι b).map (·.1)
/-- What a cell hands on, in memory. -/
theorem toC_rel (hr : Rel E N cx st a w) {c : CV} {x : RV} {o : Option Bid} {bs : List Bid} {v : Value} (h : ToC st c x o bs) (hc : RC cx w st.h c v) {A' : Nat → Prop} (hA : ∀ x, cx.A x → A' x) (hb : ∀ b ∈ bs, ∀ g q, cx.ι b = some (g, q) → A' g)
    (ho : ∀ b, o = some b → ∀ g q, cx.ι b = some (g, q) → ¬ A' g) : RVr w A' (goOf cx o) x v := by
  cases h with
  | p x => exact hc.mono hA (Nat.le_refl _) (fun _ _ _ => rfl)
  | nil e => cases hc with | v _ _ => exact rp_nil e
  | nilo e he => cases hc with | v _ _ => exact ⟨he, by simp, none, 0, rfl, by simp, by unfold maxLen; omega, .inl rfl⟩
  | @own b e n rows hb' hn =>
    subst hn
    obtain ⟨a', cap, rfl, h1, h2, h3, h4⟩ := hc _ hb'
    obtain ⟨he, hre, hrb⟩ := hr.bl b _ hb'
    refine ⟨he, hre, a', cap, rfl, h1, h2, ?_⟩
    rcases h4 with h4 | ⟨g, c, el, fz, h5, rfl, h6, h7⟩
    · exact .inl h4
    · rw [h5] at hrb
      obtain ⟨-, c', el', fz', capR, h8, h9, h10, h11, h12, h13, h14⟩ := hrb
      rw [h6] at h8
      cases h8
      obtain ⟨rfl, hnA⟩ := h9 rfl
      simp only [Bk.e, Nat.zero_mul, Nat.zero_add] at h7
      exact .inr ⟨g, c, el, by simp [goOf, h5], by simp [Bk.e], ho b rfl g 0 h5, h6, h7 he, fun i r k p hi hk => let ⟨cv, hcv, hp⟩ := h14 i r k p hi hk; ⟨cv, hcv, hp.mono hA (Nat.le_refl _) (fun _ _ _ => rfl)⟩⟩
  | @fr b e off n rows rows' mu hb' hr' =>
    subst hr'
    exact rp_of_sl hb' (hr.bl b _ hb') hc hA (hb b (by simp))
end
end Go.Proofs.Ythlaenafkihjiaa
