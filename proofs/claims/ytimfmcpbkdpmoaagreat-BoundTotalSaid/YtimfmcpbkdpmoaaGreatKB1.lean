/- Parts of the proof, laid together. No condition. -/
import Derived.Test.YtimfmcpbkdpmoaaGreatRows
import Derived.WalkKit
import Derived.WalkSpells
import Derived.Deep.QuietTactic
import Derived.BigQuiet
import Derived.Lib.Hide
import Derived.OpenShut
import Derived.Deep.AppendSrc
import Derived.Deep.RegionHeld3
import Derived.Deep.AppendLies
import Derived.Laws.BytesArg
import Derived.Orders
import Derived.Laws.Tables
set_option linter.unusedVariables false
set_option linter.unusedSimpArgs false
namespace Go.Proofs.YtimfmcpbkdpmoaaGreat
open Go.RowKit
def gI (l : List Int) (i : Nat) : Int := l.getD i 0
theorem Pm {l : List Int} {i : Nat} (h : i < l.length) : gI l i = l[i] := by simp [gI, h]
theorem Qic {l : List Int} {i : Nat} (h : i < l.length) : gI l i ∈ l := by rw [Pm h]; exact List.getElem_mem h
def Ints (k : IntKind) (w : World) (v : Value) (l : List Int) : Prop :=
 ∃ a cap, v = .slice a l.length cap ∧ l.length ≤ cap ∧ cap ≤ maxLen ∧ (∀ n ∈ l, (Lit.int k n).wf = true) ∧
  (l = [] ∨ ∃ b off, a = some ⟨b, off, none⟩ ∧ b < w.heap.size ∧ ∀ i, i < l.length → w.cell? ⟨b, off + i, none⟩ = some (.int k (gI l i)))
theorem Ints.grown {k : IntKind} {w w' : World} {v : Value} {l : List Int} (h : Ints k w v l) (hg : w.grownBy w' none) : Ints k w' v l := by
 obtain ⟨a, cap, rfl, h1, h2, h3, h4⟩ := h
 refine ⟨a, cap, rfl, h1, h2, h3, ?_⟩
 rcases h4 with h4 | ⟨b, off, rfl, hb, hc⟩
 ·exact .inl h4
 ·refine .inr ⟨b, off, rfl, Nat.lt_of_lt_of_le hb hg.size, fun i hi => ?_⟩
  rw [World.cell?_of_block (w := w) (hg.block b hb (by simp))]
  exact hc i hi
theorem Pn {w w' : World} (h : w.grownBy w' none) : Below w.heap.size w w' :=
 ⟨h.os, h.tape, h.output, h.size, fun k hk => h.block k hk (by simp)⟩
theorem Q9e {w : World} (n : Nat) : w.grownBy (w.drewN n) none := ⟨rfl, rfl, rfl, Nat.le_refl _, fun _ _ _ => rfl⟩
theorem Q5e {k : IntKind} {w : World} {B : Nat} {e : TypeId} {v : Value} {l : List Int} (h : w.ownsRow B e 1 v l.length (l.map (.int k))) (hw : ∀ n ∈ l, (Lit.int k n).wf = true) : Ints k w v l := by
 rcases h.2 with ⟨rfl, hn⟩ | ⟨g, cap, cur, rfl, hb, hg, hc, hm, hs, ht⟩
 ·exact ⟨none, 0, by rw [hn], by omega, by unfold maxLen; omega, hw, .inl (List.eq_nil_of_length_eq_zero hn)⟩
 ·refine ⟨_, cap, rfl, hc, hm, hw, .inr ⟨g, 0, rfl, (Array.getElem?_eq_some_iff.1 hg).1, fun i hi => ?_⟩⟩
  have := h.cellAt i (by omega)
  rw [Pm hi]; simpa [hi] using this
theorem Gg (w : World) : w.grownBy w none := ⟨rfl, rfl, rfl, Nat.le_refl _, fun _ _ _ => rfl⟩
def H6 (w w' : World) : Prop := ∃ n, w' = w.drewN n
theorem H6.refl (w : World) : H6 w w := ⟨0, rfl⟩
theorem H6.trans {a b c : World} (h : H6 a b) (h' : H6 b c) : H6 a c := by
 obtain ⟨n, rfl⟩ := h
 obtain ⟨m, rfl⟩ := h'
 exact ⟨n + m, World.drewN_drewN _ _ _⟩
theorem H6.cell {w w' : World} (h : H6 w w') (a : Addr) : w'.cell? a = w.cell? a := by obtain ⟨n, rfl⟩ := h; rfl
theorem H6.grown {w w' : World} (h : H6 w w') : w.grownBy w' none := by obtain ⟨n, rfl⟩ := h; exact Q9e n
theorem H6.size {w w' : World} (h : H6 w w') : w'.heap.size = w.heap.size := by obtain ⟨n, rfl⟩ := h; rfl
theorem ints_nil (k : IntKind) (w : World) : Ints k w (.slice none 0 0) [] := ⟨none, 0, rfl, by simp, by unfold maxLen; omega, by simp, .inl rfl⟩
theorem ints_of_row {k : IntKind} {w : World} {x : Addr} {len cap : Nat} {zs : List Int} (hl : len ≤ cap) (hm : cap ≤ maxLen) (hz : zs.length = cap)
  (hc : ∀ i, i < zs.length → w.cell? (x.add i) = some (.int k (zs.getD i 0))) (hwz : ∀ n ∈ zs, (Lit.int k n).wf = true) : Ints k w (.slice (some x) len cap) (zs.take len) := by
 have hlen : (zs.take len).length = len := by rw [List.length_take]; omega
 refine ⟨some x, cap, by rw [hlen], by omega, hm, fun n hn => hwz n (List.mem_of_mem_take hn), ?_⟩
 by_cases h0 : len = 0
 ·subst h0; exact .inl (by simp)
 ·obtain ⟨b, off, rfl, hcell⟩ := ints_at hc (by omega)
  refine .inr ⟨b, off, rfl, ?_, fun i hi => ?_⟩
  ·have := World.block_lt_of_cell? w _ (hcell 0 (by omega))
   simpa using this
  ·rw [hlen] at hi
   rw [hcell i (by omega)]
   simp [gI, List.getD_eq_getElem?_getD, List.getElem?_take, hi]
theorem Ints.src {P : Program} {k : IntKind} {w : World} {v : Value} {l : List Int} (h : Ints k w v l) {tx e' : TypeId} (hk : P.underlying tx = some (.slice e')) : Src P 1 tx v l.length (l.map (.int k)) w := by
 obtain ⟨a, cap, rfl, h1, h2, h3, h4⟩ := h
 rcases h4 with rfl | ⟨b, off, rfl, hb, hc⟩
 ·cases a with
  | none => exact Src.ofNil w hk cap
  | some a => exact Src.ofSlice w hk a 0 cap [] (by simp) (by simp) (by simp)
 ·refine Src.ofSlice w hk ⟨b, off, none⟩ _ cap _ (by simp) ?_ (ints_oneCell _ _)
  intro j u hj
  have hjl : j < l.length := by
   have := (List.getElem?_eq_some_iff.1 hj).1
   simpa using this
  have hu : u = .int k l[j] := by
   have := (List.getElem?_eq_some_iff.1 hj).2
   simpa using this.symm
  have hadd : (⟨b, off, none⟩ : Addr).add j = ⟨b, off + j, none⟩ := by unfold Addr.add; split <;> simp_all
  rw [hadd, hc j hjl, hu, Pm hjl]
def sI (s : ByteArray) : List Int := s.data.toList.map fun b => (b.toNat : Int)
theorem Nh (s : ByteArray) : (sI s).length = s.size := by
 unfold sI; rw [List.length_map, Array.length_toList]; rfl
theorem Q0x (s : ByteArray) : byteCells s = (sI s).map (.int .u8) := by simp [byteCells, sI]
theorem Q9f {P : Program} (w : World) (s : ByteArray) {tx : TypeId} (hk : P.underlying tx = some .string) : Src P 1 tx (.string s) (sI s).length ((sI s).map (.int .u8)) w := by
 rw [Nh, ← Q0x]; exact Src.ofString w hk s
theorem Q5f (w : World) (o : Obj) : w.grownBy (w.alloc o) none := World.grownBy_alloc w o none
theorem Qr3 (l : List Int) (k i : Nat) : gI (l.drop k) i = gI l (k + i) := by simp [gI, List.getD_eq_getElem?_getD, List.getElem?_drop]
theorem Qr4 {l : List Int} {k i : Nat} (h : i < k) : gI (l.take k) i = gI l i := by simp [gI, List.getD_eq_getElem?_getD, List.getElem?_take, h]
theorem Po {P : Program} {w : World} {v : Value} {l : List Int} (hv : Ints .u8 w v l) {src e dst : TypeId} (hs : P.underlying src = some (.slice e)) (he : P.underlying e = some (.int .u8)) (hd : P.underlying dst = some .string) :
  (convert src dst v).run P w = .ok (.string (strOfNums l)) w := by
 obtain ⟨a, cap, rfl, h1, h2, h3, h4⟩ := hv
 rcases h4 with rfl | ⟨b, off, rfl, hb, hc⟩
 ·rw [run_convert_bytes_string w src dst e a _ cap hs he hd]
  cases a with
  | none => simp [Conv.bytesToString]; rfl
  | some a =>
   rw [run_bytesToString w a _ cap [] (by simp [loadCells, loadCellsFrom])]
   rfl
 ·exact run_convert_bytes_arg w src e hs he b off _ cap l rfl hc dst hd
theorem Qvp (s : ByteArray) : ∀ n ∈ sI s, (Lit.int .u8 n).wf = true := by
 intro n hn
 simp only [sI, List.mem_map] at hn
 obtain ⟨b, _, rfl⟩ := hn
 have := b.toNat_lt
 simp [Lit.wf, IntKind.min, IntKind.max, IntKind.signed, IntKind.bits]
 omega
theorem Ints.size {k : IntKind} {w : World} {v : Value} {l : List Int} (h : Ints k w v l) : l.length ≤ 9223372036854775807 := by
 obtain ⟨a, cap, _, h1, h2, _⟩ := h
 unfold maxLen at h2
 omega
inductive PV where
 | v (x : Value)
 | l (e : Nat) (rows : List (List PV))
 | o (x : Value)
def Jm : Value → Bool
 | .bool _ => true
 | .int k n => (Lit.int k n).wf
 | .string s => decide (s.size ≤ maxLen)
 | .slice none 0 0 => true
 | .pointer none | .map none | .nilFunc | .nilIface => true
 | _ => false
inductive RP (w : World) (A : Nat → Prop) : PV → Value → Prop where
 | v (x : Value) (h : Jm x = true) : RP w A (.v x) x
 | l (e : Nat) (rows : List (List PV)) (a : Option Addr) (cap : Nat) (c : Nat → Nat → Value) (h1 : rows.length ≤ cap) (h2 : cap ≤ maxLen) (h3 : ∀ r ∈ rows, r.length = e)
   (h4 : rows = [] ∨ ∃ g off, a = some ⟨g, off, none⟩ ∧ A g ∧ g < w.heap.size ∧ ∀ i r k p, rows[i]? = some r → r[k]? = some p → w.cell? ⟨g, off + i * e + k, none⟩ = some (c i k))
   (h5 : ∀ i r k p, rows[i]? = some r → r[k]? = some p → RP w A p (c i k)) : RP w A (.l e rows) (.slice a rows.length cap)
 | o (x : Value) (h : x.oneCell' = true) : RP w A (.o x) x
theorem RP.mono {w w' : World} {A A' : Nat → Prop} {p : PV} {v : Value} (h : RP w A p v) (hA : ∀ g, A g → A' g) (hs : w.heap.size ≤ w'.heap.size) (hb : ∀ g, A g → g < w.heap.size → w'.heap[g]? = w.heap[g]?) : RP w' A' p v := by
 induction h with
 | v x h => exact .v x h
 | o x h => exact .o x h
 | l e rows a cap c h1 h2 h3 h4 h5 ih =>
  refine .l e rows a cap c h1 h2 h3 ?_ ih
  rcases h4 with h4 | ⟨g, off, rfl, hg, hl, hc⟩
  ·exact .inl h4
  ·exact .inr ⟨g, off, rfl, hA g hg, by omega, fun i r k p hi hk => by rw [World.cell?_of_block (w := w) (hb g hg hl)]; exact hc i r k p hi hk⟩
theorem V3 {x : Value} (h : Jm x = true) : x.oneCell' = true := by
 cases x <;> simp_all [Jm, Value.oneCell']
theorem RP.one {w : World} {A : Nat → Prop} {p : PV} {v : Value} (h : RP w A p v) : v.oneCell' = true := by
 cases h with
 | v x h => exact V3 h
 | o x h => exact h
 | l => rfl
abbrev Qw := Nat × Nat
inductive CV where
 | any
 | p (x : PV)
 | ptr (b : Qw) (i k : Nat)
 | sl (b : Qw) (off n : Nat)
 | ep (row : List PV) (k : Nat)
 | mp (b : Qw)
inductive TV where
 | c (x : CV)
 | agg (cs : List CV)
 | tup (ts : List TV)
structure Frm where
 e : Nat
 i : Nat
 rows : List (List PV)
def FrR (w : World) (A : Nat → Prop) (c : Array Value) (o n : Nat) : Option Frm → Prop
 | none => True
 | some f => o = f.i * f.e ∧ n = f.e ∧ 0 < f.e ∧ f.rows.length * f.e ≤ c.size ∧ (∀ r ∈ f.rows, r.length = f.e) ∧ ∀ (j : Nat) (r : List PV) (k : Nat) (p : PV), j ≠ f.i → f.rows[j]? = some r → r[k]? = some p → ∃ cv, c[j * f.e + k]? = some cv ∧ RP w A p cv
theorem FrR.imp {w w' : World} {A A' : Nat → Prop} {c : Array Value} {o n : Nat} {f : Option Frm} (hp : ∀ p v, RP w A p v → RP w' A' p v) (h : FrR w A c o n f) : FrR w' A' c o n f := by
 cases f with
 | none => trivial
 | some f =>
  obtain ⟨h1, h2, h3, h4, h5, h6⟩ := h
  exact ⟨h1, h2, h3, h4, h5, fun j r k p hj hr hk => let ⟨cv, h7, h8⟩ := h6 j r k p hj hr hk; ⟨cv, h7, hp p cv h8⟩⟩
theorem FrR.set {w : World} {A : Nat → Prop} {c c' : Array Value} {o n : Nat} {f : Option Frm} (hs : c'.size = c.size) (hc : ∀ k, k < o ∨ o + n ≤ k → c'[k]? = c[k]?) (h : FrR w A c o n f) : FrR w A c' o n f := by
 cases f with
 | none => trivial
 | some f =>
  obtain ⟨h1, h2, h3, h4, h5, h6⟩ := h
  refine ⟨h1, h2, h3, by rw [hs]; exact h4, h5, fun j r k p hj hr hk => ?_⟩
  obtain ⟨cv, h7, h8⟩ := h6 j r k p hj hr hk
  have hk2 := (List.getElem?_eq_some_iff.1 hk).1
  have hr2 := h5 r (List.mem_of_getElem? hr)
  refine ⟨cv, ?_, h8⟩
  rw [hc _ ?_]; · exact h7
  rcases Nat.lt_or_gt_of_ne hj with h | h
  ·left
   have : (j + 1) * f.e ≤ f.i * f.e := Nat.mul_le_mul_right _ h
   rw [Nat.add_mul] at this; omega
  ·right
   have : (f.i + 1) * f.e ≤ j * f.e := Nat.mul_le_mul_right _ h
   rw [Nat.add_mul] at this; omega
inductive Bk where
 | row (e : Nat) (rows : List (List PV)) (mu : Bool)
 | box (cs : List CV) (f : Option Frm := none)
 | map (ks : List Int)
def Bk.e : Bk → Nat
 | .row e _ _ => e
 | _ => 0
def Bk.len : Bk → Nat
 | .row _ rows _ => rows.length
 | _ => 0
def Zn {α : Type} : List (Nat × α) → Nat → Option α
 | [], _ => none
 | (a, b) :: r, x => match Nat.beq a x with
  | true => some b
  | false => Zn r x
def VP (a b : Qw) : Bool := Nat.beq a.1 b.1 && Nat.beq a.2 b.2
theorem Z6 {a b : Qw} : VP a b = true ↔ a = b := by
 cases a; cases b; simp [VP]
def XZ {α : Type} : List (Qw × α) → Qw → Option α
 | [], _ => none
 | (a, b) :: r, x => match VP a x with
  | true => some b
  | false => XZ r x
structure St where
 fr : List (Nat × TV)
 H : List (Qw × Option Bk)
def St.g (st : St) (s : Nat) : TV := (Zn st.fr s).getD (.c .any)
def St.h (st : St) (b : Qw) : Option Bk := (XZ st.H b).getD none
structure Cx where
 ι : Qw → Option (Nat × Nat)
 A : Nat → Prop
def RC (cx : Cx) (w : World) (h : Qw → Option Bk) : CV → Value → Prop
 | .any, _ => True
 | .p x, v => RP w cx.A x v
 | .ptr b i k, v => ∀ bk, h b = some bk → ∃ g o, cx.ι b = some (g, o) ∧ v = .pointer (some ⟨g, o + i * bk.e + k, none⟩)
 | .sl b off n, v => ∀ bk, h b = some bk → ∃ a cap, v = .slice a n cap ∧ n ≤ cap ∧ cap ≤ maxLen ∧ off + n ≤ bk.len ∧
   (cap = 0 ∨ ∃ g c el fz, cx.ι b = some (g, 0) ∧ a = some ⟨g, off * bk.e, none⟩ ∧ w.heap[g]? = some (.cells c el fz) ∧ (0 < bk.e → c.size = (off + cap) * bk.e))
 | .ep row k, v => ∃ g off, v = .pointer (some ⟨g, off + k, none⟩) ∧ cx.A g ∧ g < w.heap.size ∧ ∀ j p, row[j]? = some p → ∃ c, w.cell? ⟨g, off + j, none⟩ = some c ∧ RP w cx.A p c
 | .mp b, v => ∀ bk, h b = some bk → ∃ g, cx.ι b = some (g, 0) ∧ v = .map (some g)
def RL (cx : Cx) (w : World) (h : Qw → Option Bk) (cs : List CV) (vs : Array Value) : Prop :=
 vs.size = cs.length ∧ ∀ (i : Nat) (c : CV), cs[i]? = some c → ∃ u, vs[i]? = some u ∧ u.oneCell' = true ∧ RC cx w h c u
def RT1 (cx : Cx) (w : World) (h : Qw → Option Bk) : TV → Value → Prop
 | .c x, v => (x = .any ∨ v.oneCell' = true) ∧ RC cx w h x v
 | .agg cs, v => ∃ vs, v = .agg vs ∧ RL cx w h cs vs
 | .tup _, _ => False
def RT (cx : Cx) (w : World) (h : Qw → Option Bk) : TV → Value → Prop
 | .tup ts, v => ∃ vs : Array Value, v = .tuple vs ∧ vs.size = ts.length ∧ ∀ (i : Nat) (t : TV), ts[i]? = some t → ∃ u, vs[i]? = some u ∧ RT1 cx w h t u
 | .c x, v => (x = .any ∨ v.oneCell' = true) ∧ RC cx w h x v
 | .agg cs, v => ∃ vs, v = .agg vs ∧ RL cx w h cs vs
def RB (cx : Cx) (w : World) (h : Qw → Option Bk) (b : Qw) : Bk → Prop
 | .row e rows mu => 0 < e ∧ (∀ r ∈ rows, r.length = e) ∧ match cx.ι b with
  | none => rows = []
  | some (g, o) => o = 0 ∧ ∃ c el fz capR, w.heap[g]? = some (.cells c el fz) ∧ (mu = true → fz = (0, 0) ∧ ¬ cx.A g) ∧ (mu = false → cx.A g) ∧ c.size = capR * e ∧ rows.length ≤ capR ∧ capR ≤ maxLen ∧
    ∀ i r k p, rows[i]? = some r → r[k]? = some p → ∃ cv, c[i * e + k]? = some cv ∧ RP w cx.A p cv
 | .box cs f => ∃ g o c el, cx.ι b = some (g, o) ∧ w.heap[g]? = some (.cells c el (0, 0)) ∧ ¬ cx.A g ∧ o + cs.length ≤ c.size ∧ (∀ k x, cs[k]? = some x → ∃ cv, c[o + k]? = some cv ∧ cv.oneCell' = true ∧ RC cx w h x cv) ∧ FrR w cx.A c o cs.length f
 | .map ks => ∃ g es clk, cx.ι b = some (g, 0) ∧ w.heap[g]? = some (.map es clk) ∧ ¬ cx.A g ∧ es.toList.map (fun e => (e.key, e.val)) = ks.map (fun n => (Value.int .i64 n, Value.bool true))
structure En where
 w0 : World
 A0 : Nat → Prop
 M : Nat → Prop
 pin : Qw → Option (Nat × Nat)
def K5 : Qw := (65536, 0)
abbrev Q5g (b : Qw) : Prop := b = K5 ∨ 65537 ≤ b.1
def SzK (w w' : World) : Prop := ∀ (g : Nat) (c : Array Value) (el : TypeId) (fz : Nat × Nat), w.heap[g]? = some (Obj.cells c el fz) → ∃ (c' : Array Value) (el' : TypeId) (fz' : Nat × Nat), w'.heap[g]? = some (Obj.cells c' el' fz') ∧ c'.size = c.size
theorem SzK.refl (w : World) : SzK w w := fun g c el fz h => ⟨c, el, fz, h, rfl⟩
theorem SzK.trans {w1 w2 w3 : World} (h : SzK w1 w2) (h' : SzK w2 w3) : SzK w1 w3 := fun g c el fz hg =>
 let ⟨c2, el2, fz2, h2, e2⟩ := h g c el fz hg
 let ⟨c3, el3, fz3, h3, e3⟩ := h' g c2 el2 fz2 h2
 ⟨c3, el3, fz3, h3, e3.trans e2⟩
theorem SzK.kept {w w' : World} (h : ∀ g, g < w.heap.size → w'.heap[g]? = w.heap[g]?) : SzK w w' := fun g c el fz hg => ⟨c, el, fz, (h g (Array.getElem?_eq_some_iff.1 hg).1).trans hg, rfl⟩
structure Xx (E : En) (N : Nat) (cx : Cx) (st : St) (a : Act) (w : World) : Prop where
 defers : a.defers = []
 size : a.tmps.size = N
 fr : ∀ s, RT cx w st.h (st.g s) (a.tmps.getD s undef)
 bl : ∀ b bk, st.h b = some bk → RB cx w st.h b bk
 inj : ∀ b b' g o g' o', st.h b ≠ none → st.h b' ≠ none → cx.ι b = some (g, o) → cx.ι b' = some (g', o') → b ≠ b' → g ≠ g'
 own : ∀ b g o, st.h b ≠ none → cx.ι b = some (g, o) → g < w.heap.size ∧ (E.w0.heap.size ≤ g ∨ E.M g)
 A : ∀ g, cx.A g → g < w.heap.size ∧ (E.A0 g ∨ E.w0.heap.size ≤ g ∨ E.M g)
 A0 : ∀ g, E.A0 g → cx.A g
 kept : ∀ g, g < E.w0.heap.size → ¬ E.M g → w.heap[g]? = E.w0.heap[g]?
 sz : E.w0.heap.size ≤ w.heap.size
 os : w.os = E.w0.os
 tape : w.tape = E.w0.tape
 output : w.output = E.w0.output
 hN : N ≤ 65536
 pin : ∀ b, Q5g b → cx.ι b = E.pin b
 cz : SzK E.w0 w
structure Xg (A : Nat → Prop) (w w' : World) : Prop where
 sz : w.heap.size ≤ w'.heap.size
 bl : ∀ g, A g → g < w.heap.size → w'.heap[g]? = w.heap[g]?
 cz : SzK w w'
theorem RP.keeps {w w' : World} {A A' : Nat → Prop} {p : PV} {v : Value} (h : RP w A p v) (hA : ∀ g, A g → A' g) (hk : Xg A w w') : RP w' A' p v := h.mono hA hk.sz hk.bl
structure Ef where
 t : TV
 bl : List (Qw × Option Bk)
structure Fp where
 rb : List Qw
 al : List Qw
def Ef.ap (ef : Ef) (o : Oper) (st : St) : St := ⟨o.dst.toList.map (·, ef.t) ++ st.fr, ef.bl ++ st.H⟩
def CV.ment : CV → List Qw
 | .ptr b _ _ | .sl b _ _ | .mp b => [b]
 | _ => []
def AJ (cs : List CV) : List Qw := cs.flatMap CV.ment
def TV.ment1 : TV → List Qw
 | .c x => x.ment
 | .agg cs => AJ cs
 | .tup _ => []
def TV.ment : TV → List Qw
 | .tup ts => ts.flatMap TV.ment1
 | .c x => x.ment
 | .agg cs => AJ cs
def Bk.ment : Bk → List Qw
 | .box cs _ => AJ cs
 | _ => []
def oment : Option Bk → List Qw
 | none => []
 | some b => b.ment
def Ef.mt (ef : Ef) : List Qw := ef.t.ment ++ (ef.bl.flatMap (fun x => oment x.2) ++ ef.bl.map (·.1))
def WA (b : Qw) (st : St) : Prop := st.h b = none ∧ (∀ s, b ∉ (st.g s).ment) ∧ ∀ b' bk, st.h b' = some bk → b ∉ bk.ment
def OpOK (E : En) (N : Nat) (P : Program) (o : Oper) (st : St) (ef : Ef) : Prop :=
 (∀ d, o.dst = some d → d < N) → ∀ cx a w Q, Xx E N cx st a w → o.wp P a w (fun a' w' => ∃ cx', Xx E N cx' (ef.ap o st) a' w') Q
def Agree (ops : Array Oper) (o : Oper) (f : Fp) (st st' : St) : Prop := (∀ s ∈ o.looksAt ops, st'.g s = st.g s) ∧ (∀ b ∈ f.rb, st'.h b = st.h b)
def ZC (E : En) (N : Nat) (P : Program) (ops : Array Oper) (o : Oper) (st : St) (f : Fp) (ef : Ef) : Prop :=
 ∀ st', Agree ops o f st st' → (∀ b ∈ f.al, WA b st') → OpOK E N P o st' ef
def wn (ops : Array Oper) (o : Oper) (st : St) : Option Bool :=
 match o.guard with
 | none => some true
 | some (j, want) => match (ops[j]?).bind (·.dst) with
  | none => none
  | some d => match st.g d with
   | .c (.p (.v (.bool b))) => some (b == want)
   | .tup [] => some false
   | _ => none
def Qzd (E : En) (N : Nat) (P : Program) (ops : Array Oper) (o : Oper) (st : St) (f : Fp) (ef : Ef) : Prop :=
 wn ops o st = some true ∧ ZC E N P ops o st f ef ∨ wn ops o st = some false ∧ True ∧ ef = ⟨.tup [], []⟩
theorem Ml {ops : Array Oper} {o : Oper} {st st' : St} (h : ∀ s ∈ o.looksAt ops, st'.g s = st.g s) : wn ops o st' = wn ops o st := by
 unfold wn
 cases hg : o.guard with
 | none => rfl
 | some x =>
  obtain ⟨j, want⟩ := x
  simp only
  cases hd : (ops[j]?).bind (·.dst) with
  | none => rfl
  | some d => simp only; rw [h d (by simp [Oper.looksAt, hg, hd])]
theorem Iv {E : En} {N : Nat} {cx : Cx} {ops : Array Oper} {o : Oper} {st : St} {a : Act} {w : World} {b : Bool} (hr : Xx E N cx st a w) (h : wn ops o st = some b) : Region.wanted o (yielded ops a.tmps) = b := by
 unfold wn at h
 unfold Region.wanted
 cases hg : o.guard with
 | none => simp only [hg] at h ⊢; exact Option.some.inj h
 | some x =>
  obtain ⟨j, want⟩ := x
  simp only [hg] at h ⊢
  cases hd : (ops[j]?).bind (·.dst) with
  | none => simp only [hd] at h; cases h
  | some d =>
   simp only [hd] at h
   have hf := hr.fr d
   split at h
   ·rename_i bb hb
    rw [hb] at hf
    have hv : a.tmps.getD d undef = .bool bb := by
     revert hf
     generalize a.tmps.getD d undef = y
     intro hf
     cases hf.2 with | v _ _ => rfl
    have : a.tmps[d]? = some (.bool bb) := by
     cases hx : a.tmps[d]? with
     | none => rw [Array.getD_eq_getD_getElem?, hx] at hv; simp [undef] at hv
     | some y => rw [Array.getD_eq_getD_getElem?, hx] at hv; simpa using hv
    simp only [yielded, hd, Option.bind_some, this]
    have := Option.some.inj h
    rw [← this]
    cases bb <;> cases want <;> rfl
   ·rename_i hb
    rw [hb] at hf
    obtain ⟨vs, hv, hz, _⟩ := hf
    have : yielded ops a.tmps j = none := by
     simp only [yielded, hd, Option.bind_some]
     cases hx : a.tmps[d]? with
     | none => rfl
     | some y =>
      rw [Array.getD_eq_getD_getElem?, hx] at hv
      simp only [Option.getD_some] at hv
      subst hv; rfl
    rw [this, ← Option.some.inj h]
    rfl
   ·cases h
inductive Seq (E : En) (N : Nat) (P : Program) (ops : Array Oper) : List Oper → St → List (Fp × Ef) → St → Prop
 | nil (st : St) : Seq E N P ops [] st [] st
 | cons {o : Oper} {r : List Oper} {st st' : St} {f : Fp} {ef : Ef} {es : List (Fp × Ef)} (h : Qzd E N P ops o st f ef) (hr : Seq E N P ops r (ef.ap o st) es st') : Seq E N P ops (o :: r) st ((f, ef) :: es) st'
theorem Q9g {α : Type} (l r : List (Nat × α)) (x : Nat) : Zn (l ++ r) x = (Zn l x).or (Zn r x) := by
 induction l with
 | nil => rfl
 | cons y l ih =>
  obtain ⟨a, b⟩ := y
  simp only [List.cons_append, Zn]
  cases Nat.beq a x
  ·exact ih
  ·rfl
theorem VQ {α : Type} (l r : List (Qw × α)) (x : Qw) : XZ (l ++ r) x = (XZ l x).or (XZ r x) := by
 induction l with
 | nil => rfl
 | cons y l ih =>
  obtain ⟨a, b⟩ := y
  simp only [List.cons_append, XZ]
  cases VP a x
  ·exact ih
  ·rfl
theorem Qid {α : Type} {l : List (Nat × α)} {x : Nat} (h : x ∉ l.map (·.1)) : Zn l x = none := by
 induction l with
 | nil => rfl
 | cons y l ih =>
  obtain ⟨a, b⟩ := y
  simp only [List.map_cons, List.mem_cons, not_or] at h
  simp only [Zn]
  have : Nat.beq a x = false := by
   cases hb : Nat.beq a x with
   | false => rfl
   | true => exact absurd (Nat.eq_of_beq_eq_true hb).symm h.1
  rw [this]
  exact ih h.2
theorem Qie {α : Type} {l : List (Qw × α)} {x : Qw} (h : x ∉ l.map (·.1)) : XZ l x = none := by
 induction l with
 | nil => rfl
 | cons y l ih =>
  obtain ⟨a, b⟩ := y
  simp only [List.map_cons, List.mem_cons, not_or] at h
  simp only [XZ]
  have : VP a x = false := by
   cases hb : VP a x with
   | false => rfl
   | true => exact absurd (Z6.1 hb).symm h.1
  rw [this]
  exact ih h.2
theorem Q0y {α : Type} {l : List (Nat × α)} {x : Nat} {y : α} (h : Zn l x = some y) : (x, y) ∈ l := by
 induction l with
 | nil => cases h
 | cons z l ih =>
  obtain ⟨a, b⟩ := z
  simp only [Zn] at h
  cases hb : Nat.beq a x with
  | false => rw [hb] at h; exact List.mem_cons_of_mem _ (ih h)
  | true => rw [hb] at h; cases h; rw [Nat.eq_of_beq_eq_true hb]; exact List.mem_cons_self
theorem YH {α : Type} {l : List (Qw × α)} {x : Qw} {y : α} (h : XZ l x = some y) : (x, y) ∈ l := by
 induction l with
 | nil => cases h
 | cons z l ih =>
  obtain ⟨a, b⟩ := z
  simp only [XZ] at h
  cases hb : VP a x with
  | false => rw [hb] at h; exact List.mem_cons_of_mem _ (ih h)
  | true => rw [hb] at h; cases h; rw [Z6.1 hb]; exact List.mem_cons_self
theorem Qen {ef : Ef} {o : Oper} {st : St} {s : Nat} (h : o.dst ≠ some s) : (ef.ap o st).g s = st.g s := by
 unfold St.g Ef.ap
 rw [Q9g, Qid]
 ·rfl
 ·cases hd : o.dst with
  | none => simp
  | some d => rw [hd] at h; simp; exact fun e => h (by rw [e])
theorem EI {ef : Ef} {o : Oper} {st : St} {s : Nat} (h : o.dst = some s) : (ef.ap o st).g s = ef.t := by
 unfold St.g Ef.ap
 simp [h, Zn]
theorem Qif {ef : Ef} {o : Oper} {st : St} {b : Qw} (h : b ∉ ef.bl.map (·.1)) : (ef.ap o st).h b = st.h b := by
 unfold St.h Ef.ap
 rw [VQ, Qie h]; rfl
theorem HE {α : Type} {l : List (Qw × α)} {x : Qw} (h : x ∈ l.map (·.1)) : ∃ y, XZ l x = some y := by
 induction l with
 | nil => simp at h
 | cons z l ih =>
  obtain ⟨a, b⟩ := z
  simp only [XZ]
  cases hb : VP a x with
  | true => exact ⟨_, rfl⟩
  | false =>
   rcases List.mem_cons.1 h with h | h
   ·rw [h] at hb; simp [VP] at hb
   ·exact ih h
theorem Qck {ef : Ef} {o o' : Oper} {st st' : St} {s : Qw} (h : s ∈ ef.bl.map (·.1)) : (ef.ap o st).h s = (ef.ap o' st').h s := by
 unfold St.h Ef.ap
 obtain ⟨y, hy⟩ := HE h
 rw [VQ, VQ, hy]; rfl
def Alike (st st' : St) : Prop := (∀ s, st'.g s = st.g s) ∧ ∀ b, st'.h b = st.h b
theorem Xx.alike {E : En} {N : Nat} {cx : Cx} {st st' : St} {a : Act} {w : World} (h : Xx E N cx st a w) (ha : Alike st st') : Xx E N cx st' a w := by
 have hh : st'.h = st.h := funext ha.2
 exact ⟨h.defers, h.size, fun s => by rw [hh, ha.1]; exact h.fr s, fun b bk hb => by rw [hh] at hb ⊢; exact h.bl b bk hb, fun b b' g o g' o' h1 h2 => by rw [hh] at h1 h2; exact h.inj b b' g o g' o' h1 h2,
  fun b g o h1 => by rw [hh] at h1; exact h.own b g o h1, h.A, h.A0, h.kept, h.sz, h.os, h.tape, h.output, h.hN, h.pin, h.cz⟩
def Ge (X : Nat → Bool) : Nat → List (Oper × Ef) → St → St
 | _, [], st => st
 | i, (o, ef) :: es, st => Ge X (i + 1) es (if X i then ef.ap o st else st)
theorem O3 {X Y : Nat → Bool} {s : Nat} : ∀ (l : List (Oper × Ef)) (i : Nat) (st st' : St), (∀ (j : Nat) (x : Oper × Ef), l[j]? = some x → x.1.dst = some s → X (i + j) = Y (i + j)) → st'.g s = st.g s → (Ge Y i l st').g s = (Ge X i l st).g s := by
 intro l
 induction l with
 | nil => intro i st st' _ h; exact h
 | cons x l ih =>
  intro i st st' hxy h
  obtain ⟨o, ef⟩ := x
  simp only [Ge]
  refine ih (i + 1) _ _ (fun j x hj hd => by have := hxy (j + 1) x (by simpa using hj) hd; rw [Nat.add_assoc, Nat.add_comm 1 j]; exact this) ?_
  by_cases hd : o.dst = some s
  ·have := hxy 0 (o, ef) rfl hd
   rw [Nat.add_zero] at this
   rw [this]
   split
   ·rw [EI hd, EI hd]
   ·exact h
  ·split <;> split <;> simp only [Qen hd, h]
theorem O4 {X Y : Nat → Bool} {b : Qw} : ∀ (l : List (Oper × Ef)) (i : Nat) (st st' : St), (∀ (j : Nat) (x : Oper × Ef), l[j]? = some x → b ∈ x.2.bl.map (·.1) → X (i + j) = Y (i + j)) → st'.h b = st.h b → (Ge Y i l st').h b = (Ge X i l st).h b := by
 intro l
 induction l with
 | nil => intro i st st' _ h; exact h
 | cons x l ih =>
  intro i st st' hxy h
  obtain ⟨o, ef⟩ := x
  simp only [Ge]
  refine ih (i + 1) _ _ (fun j x hj hd => by have := hxy (j + 1) x (by simpa using hj) hd; rw [Nat.add_assoc, Nat.add_comm 1 j]; exact this) ?_
  by_cases hd : b ∈ ef.bl.map (·.1)
  ·have := hxy 0 (o, ef) rfl hd
   rw [Nat.add_zero] at this
   rw [this]
   split
   ·exact Qck hd
   ·exact h
  ·split <;> split <;> simp only [Qif hd, h]
theorem Pp {X : Nat → Bool} {s : Nat} {o : Oper} {ef : Ef} (hd : o.dst = some s) : ∀ (l : List (Oper × Ef)) (i k : Nat) (st : St), l[k]? = some (o, ef) → X (i + k) = true → (∀ (j : Nat) (x : Oper × Ef), k < j → l[j]? = some x → x.1.dst = some s → X (i + j) = false) → (Ge X i l st).g s = ef.t := by
 intro l
 induction l with
 | nil => intro i k st h; simp at h
 | cons x l ih =>
  intro i k st h hX hj
  obtain ⟨o', ef'⟩ := x
  simp only [Ge]
  cases k with
  | zero =>
   simp only [List.getElem?_cons_zero, Option.some.injEq, Prod.mk.injEq] at h
   obtain ⟨rfl, rfl⟩ := h
   rw [Nat.add_zero] at hX
   rw [hX, if_pos rfl]
   rw [O3 (X := fun _ => false) (Y := X) l (i + 1) (ef'.ap o' st) (ef'.ap o' st) (fun j x hx hs => by have := hj (j + 1) x (by omega) (by simpa using hx) hs; rw [Nat.add_assoc, Nat.add_comm 1 j]; exact this.symm) rfl]
   have : ∀ (l : List (Oper × Ef)) (i : Nat) (st : St), Ge (fun _ => false) i l st = st := by
    intro l
    induction l with
    | nil => intro i st; rfl
    | cons x l ih => intro i st; obtain ⟨a, b⟩ := x; simp only [Ge]; exact ih _ _
   rw [this, EI hd]
  | succ k =>
   exact ih (i + 1) k _ (by simpa using h) (by rw [Nat.add_assoc, Nat.add_comm 1 k]; exact hX) (fun j x hk hx hs => by have := hj (j + 1) x (by omega) (by simpa using hx) hs; rw [Nat.add_assoc, Nat.add_comm 1 j]; exact this)
theorem Mm : ∀ (l : List (Oper × Ef)) (i : Nat) (st : St), Ge (fun _ => false) i l st = st := by
 intro l
 induction l with
 | nil => intro i st; rfl
 | cons x l ih => intro i st; obtain ⟨a, b⟩ := x; simp only [Ge]; exact ih _ _
theorem Pq {X : Nat → Bool} {b : Qw} {o o2 : Oper} {ef : Ef} {st2 : St} (hd : b ∈ ef.bl.map (·.1)) : ∀ (l : List (Oper × Ef)) (i k : Nat) (st : St), l[k]? = some (o, ef) → X (i + k) = true → (∀ (j : Nat) (x : Oper × Ef), k < j → l[j]? = some x → b ∈ x.2.bl.map (·.1) → X (i + j) = false) → (Ge X i l st).h b = (ef.ap o2 st2).h b := by
 intro l
 induction l with
 | nil => intro i k st h; simp at h
 | cons x l ih =>
  intro i k st h hX hj
  obtain ⟨o', ef'⟩ := x
  simp only [Ge]
  cases k with
  | zero =>
   simp only [List.getElem?_cons_zero, Option.some.injEq, Prod.mk.injEq] at h
   obtain ⟨rfl, rfl⟩ := h
   rw [Nat.add_zero] at hX
   rw [hX, if_pos rfl]
   rw [O4 (X := fun _ => false) (Y := X) l (i + 1) (ef'.ap o' st) (ef'.ap o' st) (fun j x hx hs => by have := hj (j + 1) x (by omega) (by simpa using hx) hs; rw [Nat.add_assoc, Nat.add_comm 1 j]; exact this.symm) rfl, Mm]
   exact Qck hd
  | succ k =>
   exact ih (i + 1) k _ (by simpa using h) (by rw [Nat.add_assoc, Nat.add_comm 1 k]; exact hX) (fun j x hk hx hs => by have := hj (j + 1) x (by omega) (by simpa using hx) hs; rw [Nat.add_assoc, Nat.add_comm 1 j]; exact this)
theorem Q05 {X : Nat → Bool} {b : Qw} : ∀ (l : List (Oper × Ef)) (i : Nat) (st : St), WA b st → (∀ (j : Nat) (x : Oper × Ef), l[j]? = some x → X (i + j) = true → b ∉ x.2.mt) → WA b (Ge X i l st) := by
 intro l
 induction l with
 | nil => intro i st h _; exact h
 | cons x l ih =>
  intro i st h hj
  obtain ⟨o, ef⟩ := x
  simp only [Ge]
  refine ih (i + 1) _ ?_ (fun j x hx hX => hj (j + 1) x (by simpa using hx) (by rw [Nat.add_assoc, Nat.add_comm 1 j] at hX; exact hX))
  split
  ·rename_i hX
   have hm := hj 0 (o, ef) rfl (by rw [Nat.add_zero]; exact hX)
   simp only [Ef.mt, List.mem_append, not_or] at hm
   obtain ⟨h1, h2, h3⟩ := h
   refine ⟨by rw [Qif hm.2.2]; exact h1, fun s => ?_, fun b' bk hb => ?_⟩
   ·by_cases hd : o.dst = some s
    ·rw [EI hd]; exact hm.1
    ·rw [Qen hd]; exact h2 s
   ·by_cases hk : b' ∈ ef.bl.map (·.1)
    ·unfold St.h Ef.ap at hb
     obtain ⟨y, hy⟩ := HE hk
     rw [VQ, hy] at hb
     simp only [Option.some_or, Option.getD_some] at hb
     subst hb
     have := hm.2.1
     simp only [List.mem_flatMap, not_exists, not_and] at this
     exact this _ (YH hy)
    ·rw [Qif hk] at hb; exact h3 b' bk hb
  ·exact h
def DN (o : Oper) : List Nat := (o.after.toList.filter (Region.binds .any)).map (·.on)
def Mn : List Oper → List (List Nat) → List (List Nat)
 | [], acc => acc
 | o :: r, acc => Mn r (acc ++ [DN o ++ (DN o).flatMap (acc.getD · [])])
def Qeo : List Nat → Nat → Bool
 | [], _ => false
 | a :: r, x => Nat.beq a x || Qeo r x
theorem Q5h {l : List Nat} {x : Nat} : Qeo l x = true ↔ x ∈ l := by
 induction l with
 | nil => simp [Qeo]
 | cons a r ih =>
  simp only [Qeo, Bool.or_eq_true, List.mem_cons, ih]
  constructor
  ·rintro (h | h)
   ·exact .inl (Nat.eq_of_beq_eq_true h).symm
   ·exact .inr h
  ·rintro (rfl | h)
   ·exact .inl (by simp)
   ·exact .inr h
def Q5i : List Qw → Qw → Bool
 | [], _ => false
 | a :: r, x => VP a x || Q5i r x
theorem HG {l : List Qw} {x : Qw} : Q5i l x = true ↔ x ∈ l := by
 induction l with
 | nil => simp [Q5i]
 | cons a r ih =>
  simp only [Q5i, Bool.or_eq_true, List.mem_cons, ih, Z6]
  constructor
  ·rintro (h | h)
   ·exact .inl h.symm
   ·exact .inr h
  ·rintro (rfl | h)
   ·exact .inl rfl
   ·exact .inr h
def Dh (l m : List Qw) : Bool := l.all fun x => !Q5i m x
theorem VL {l m : List Qw} (h : Dh l m = true) : ∀ x ∈ l, x ∉ m := by
 intro x hx hm
 have := List.all_eq_true.1 h x hx
 simp [HG.2 hm] at this
def Ef.wb (ef : Ef) : List Qw := ef.bl.map (·.1)
def Mp (i : Nat) (f : Nat → Bool) : Bool := match i with
 | 0 => true
 | i + 1 => f i && Mp i f
theorem BN {f : Nat → Bool} : ∀ {i : Nat}, Mp i f = true → ∀ j, j < i → f j = true := by
 intro i
 induction i with
 | zero => intro _ j h; omega
 | succ i ih =>
  intro h j hj
  simp only [Mp, Bool.and_eq_true] at h
  by_cases e : j = i
  ·rw [e]; exact h.1
  ·exact ih h.2 j (by omega)
def dO : Oper := default
def Qig (N : Nat) (l : List Oper) : Bool :=
 Mp l.length fun i => (l.getD i dO).dst.all (fun d => Nat.blt d N) && (DN (l.getD i dO)).all (fun p => Nat.blt p i) &&
  Mp i fun j => (Oper.apart l.toArray (l.getD j dO) (l.getD i dO)) || Qeo ((Mn l []).getD i []) j
def dFE : Fp × Ef := (⟨[], []⟩, ⟨.c .any, []⟩)
def Q9h (l : List Oper) (es : List (Fp × Ef)) : Bool :=
 Mp l.length fun i => Mp i fun j =>
  ((Dh (es.getD j dFE).2.wb ((es.getD i dFE).1.rb ++ (es.getD i dFE).2.wb) && Dh (es.getD j dFE).1.rb (es.getD i dFE).2.wb && Dh (es.getD j dFE).1.al (es.getD i dFE).2.mt) || Qeo ((Mn l []).getD i []) j)
  && Dh (es.getD i dFE).1.al (es.getD j dFE).2.mt
def Q0z (es : List (Fp × Ef)) : Bool := Mp es.length fun i => Mp i fun j => Dh (es.getD i dFE).1.al (es.getD j dFE).2.mt
def Q9i (N : Nat) (l : List Oper) : Bool := l.all fun o => o.dst.all (fun d => Nat.blt d N)
theorem Pr {l : List Oper} {X : Nat → Bool} (hX : ∀ i o, l[i]? = some o → X i = true → ∀ p ∈ DN o, X p = true) :
  ∀ i o, l[i]? = some o → (∀ p ∈ DN o, X p = true) → ∀ j ∈ (Mn l []).getD i [], X j = true := by
 have key : ∀ (r : List Oper) (acc : List (List Nat)) (k : Nat), acc.length = k → (∀ j, r[j]? = l[k + j]?) →
   (∀ i o, i < k → l[i]? = some o → (∀ p ∈ DN o, X p = true) → ∀ j ∈ acc.getD i [], X j = true) →
   ∀ i o, l[i]? = some o → (∀ p ∈ DN o, X p = true) → ∀ j ∈ (Mn r acc).getD i [], X j = true := by
  intro r
  induction r with
  | nil =>
   intro acc k hk hr hg i o ho hp j hj
   have hlt : i < k := by
    rcases Nat.lt_or_ge i k with h | h
    ·exact h
    ·have := hr (i - k)
     rw [show k + (i - k) = i by omega, ho] at this
     simp at this
   exact hg i o hlt ho hp j hj
  | cons y r ih =>
   intro acc k hk hr hg i o ho hp j hj
   simp only [Mn] at hj
   have hy : l[k]? = some y := by have := hr 0; simpa using this.symm
   refine ih _ (k + 1) (by simp [hk]) (fun j => by have := hr (j + 1); rw [List.getElem?_cons_succ] at this; rw [this]; congr 1; omega) ?_ i o ho hp j hj
   intro i' o' hi' ho' hp' j' hj'
   by_cases e : i' < k
   ·rw [List.getD_eq_getElem?_getD, List.getElem?_append_left (by omega)] at hj'
    exact hg i' o' e ho' hp' j' (by rw [List.getD_eq_getElem?_getD]; exact hj')
   ·obtain rfl : i' = k := by omega
    rw [hy] at ho'
    obtain rfl := Option.some.inj ho'
    rw [List.getD_eq_getElem?_getD, List.getElem?_append_right (by omega)] at hj'
    simp only [hk, Nat.sub_self, List.getElem?_cons_zero, Option.getD_some, List.mem_append, List.mem_flatMap] at hj'
    rcases hj' with hj' | ⟨p, hp1, hp2⟩
    ·exact hp' j' hj'
    ·have hXp := hp' p hp1
     by_cases hpk : p < acc.length
     ·have hpl : p < l.length := by
       have := (List.getElem?_eq_some_iff.1 hy).1
       omega
      have hpo : l[p]? = some l[p] := List.getElem?_eq_getElem hpl
      exact hg p _ (by omega) hpo (hX p _ hpo hXp) j' hp2
     ·rw [List.getD_eq_getElem?_getD, List.getElem?_eq_none (by omega)] at hp2
      simp at hp2
 exact key l [] 0 rfl (fun j => by simp) (fun i o h => by omega)
theorem Xx.drew {E : En} {N : Nat} {cx : Cx} {st : St} {a : Act} {w : World} (h : Xx E N cx st a w) : Xx E N cx st a { w with drawn := w.drawn + 1 } := by
 have hRP : ∀ {A : Nat → Prop} {p : PV} {v : Value}, RP w A p v → RP { w with drawn := w.drawn + 1 } A p v := fun h => h.mono (fun _ h => h) (Nat.le_refl _) (fun _ _ _ => rfl)
 have hRC : ∀ (c : CV) (v : Value), RC cx w st.h c v → RC cx { w with drawn := w.drawn + 1 } st.h c v := by
  intro c v h
  cases c with
  | any => trivial
  | p x => exact hRP h
  | ptr b i k => exact h
  | sl b off n => exact h
  | ep row k =>
   obtain ⟨g, off, h1, h2, h3, h4⟩ := h
   exact ⟨g, off, h1, h2, h3, fun j p hp => let ⟨c, hc, hp⟩ := h4 j p hp; ⟨c, hc, hRP hp⟩⟩
  | mp b => exact h
 have hRL : ∀ (cs : List CV) (vs : Array Value), RL cx w st.h cs vs → RL cx { w with drawn := w.drawn + 1 } st.h cs vs := fun cs vs h => ⟨h.1, fun i c hc => let ⟨u, hu, h1, hr⟩ := h.2 i c hc; ⟨u, hu, h1, hRC c u hr⟩⟩
 refine ⟨h.defers, h.size, fun s => ?_, fun b bk hb => ?_, h.inj, h.own, h.A, h.A0, h.kept, h.sz, h.os, h.tape, h.output, h.hN, h.pin, h.cz⟩
 ·have := h.fr s
  revert this
  cases st.g s with
  | c x => exact fun h => ⟨h.1, hRC x _ h.2⟩
  | agg cs => rintro ⟨vs, h1, h2⟩; exact ⟨vs, h1, hRL _ _ h2⟩
  | tup ts =>
   rintro ⟨vs, h1, h2, h3⟩
   refine ⟨vs, h1, h2, fun i t ht => ?_⟩
   obtain ⟨u, hu, hr⟩ := h3 i t ht
   refine ⟨u, hu, ?_⟩
   cases t with
   | c x => exact ⟨hr.1, hRC x _ hr.2⟩
   | agg cs => obtain ⟨us, h4, h5⟩ := hr; exact ⟨us, h4, hRL _ _ h5⟩
   | tup ts => exact hr
 ·have := h.bl b bk hb
  cases bk with
  | row e rows mu =>
   obtain ⟨h0, h1, h2⟩ := this
   refine ⟨h0, h1, ?_⟩
   revert h2
   cases cx.ι b with
   | none => exact id
   | some x =>
    obtain ⟨g, o⟩ := x
    rintro ⟨h3, c, el, fz, capR, h4, h5, h6, h7, h8, h9, h10⟩
    exact ⟨h3, c, el, fz, capR, h4, h5, h6, h7, h8, h9, fun i r k p hi hk => let ⟨cv, hc, hp⟩ := h10 i r k p hi hk; ⟨cv, hc, hRP hp⟩⟩
  | box cs f =>
   obtain ⟨g, o, c, el, h1, h2, h3, h4, h5, h6⟩ := this
   exact ⟨g, o, c, el, h1, h2, h3, h4, fun k x hx => let ⟨cv, hc, h1, hp⟩ := h5 k x hx; ⟨cv, hc, h1, hRC x cv hp⟩, h6.imp fun _ _ h => hRP h⟩
  | map ks => exact this
theorem Seq.len {E : En} {N : Nat} {P : Program} {ops : Array Oper} {l : List Oper} {st st' : St} {es : List (Fp × Ef)} (h : Seq E N P ops l st es st') : es.length = l.length := by
 induction h with
 | nil => rfl
 | cons _ _ ih => simp [ih]
def AT (l : List Oper) (es : List (Fp × Ef)) : List (Oper × Ef) := l.zip (es.map (·.2))
theorem P6 {l : List Oper} {es : List (Fp × Ef)} {i : Nat} {o : Oper} {f : Fp} {ef : Ef} (ho : l[i]? = some o) (he : es[i]? = some (f, ef)) : (AT l es)[i]? = some (o, ef) := by
 simp [AT, List.getElem?_zip_eq_some, ho, he]
theorem Wr {l : List Oper} {es : List (Fp × Ef)} {i : Nat} {o : Oper} {ef : Ef} (h : (AT l es)[i]? = some (o, ef)) : l[i]? = some o ∧ ∃ f, es[i]? = some (f, ef) := by
 simp only [AT, List.getElem?_zip_eq_some, List.getElem?_map, Option.map_eq_some_iff] at h
 obtain ⟨h1, ⟨f, ef'⟩, h2, rfl⟩ := h
 exact ⟨h1, f, h2⟩
theorem Seq.at {E : En} {N : Nat} {P : Program} {ops : Array Oper} {l : List Oper} {st st' : St} {es : List (Fp × Ef)} (h : Seq E N P ops l st es st') :
  (∀ (i k : Nat) (o : Oper) (f : Fp) (ef : Ef), l[i]? = some o → es[i]? = some (f, ef) → Qzd E N P ops o (Ge (fun j => decide (j < k + i)) k (AT l es) st) f ef) ∧
  (∀ k, Ge (fun _ => true) k (AT l es) st = st') := by
 induction h with
 | nil st => exact ⟨fun i k o f ef h => by simp at h, fun k => rfl⟩
 | @cons o r st st' f ef es h hr ih =>
  constructor
  ·intro i k o' f' ef' ho he
   cases i with
   | zero =>
    simp only [List.getElem?_cons_zero, Option.some.injEq, Prod.mk.injEq] at ho he
    obtain ⟨rfl, rfl⟩ := he
    subst ho
    have : Alike st (Ge (fun j => decide (j < k + 0)) k (AT (o :: r) ((f, ef) :: es)) st) := by
     have e : Ge (fun _ => false) k (AT (o :: r) ((f, ef) :: es)) st = st := Mm _ _ _
     constructor
     ·intro s
      conv => rhs; rw [← e]
      exact O3 _ _ _ _ (fun j x _ _ => by simp) rfl
     ·intro s
      conv => rhs; rw [← e]
      exact O4 _ _ _ _ (fun j x _ _ => by simp) rfl
    rcases h with ⟨h1, h2⟩ | ⟨h1, h2⟩
    ·refine .inl ⟨by rw [Ml (fun s _ => this.1 s)]; exact h1, fun st2 ha hf => h2 st2 ⟨fun s hs => (ha.1 s hs).trans (this.1 s), fun b hb => (ha.2 b hb).trans (this.2 b)⟩ hf⟩
    ·exact .inr ⟨by rw [Ml (fun s _ => this.1 s)]; exact h1, h2⟩
   | succ i =>
    have := ih.1 i (k + 1) o' f' ef' (by simpa using ho) (by simpa using he)
    simp only [AT, List.map_cons, List.zip_cons_cons, Ge]
    rw [if_pos (by simp)]
    rw [show k + (i + 1) = k + 1 + i by omega]
    exact this
  ·intro k
   simp only [AT, List.map_cons, List.zip_cons_cons, Ge, if_true]
   exact ih.2 (k + 1)
theorem put_eq {o : Oper} {a : Act} {v : Value} {s : Nat} (h : o.dst ≠ some s) : (a.put o.dst v).tmps.getD s undef = a.tmps.getD s undef := by
 cases hd : o.dst with
 | none => rfl
 | some d =>
  rw [hd] at h
  have : d ≠ s := fun e => h (by rw [e])
  simp [Act.put, Array.getD_eq_getD_getElem?, Array.getElem?_setIfInBounds_ne this]
theorem Q5j {o : Oper} {a : Act} {v : Value} {s : Nat} (h : o.dst = some s) (hs : s < a.tmps.size) : (a.put o.dst v).tmps.getD s undef = v := by
 rw [h]
 simp [Act.put, Array.getD_eq_getD_getElem?, hs]
theorem Ps {o : Oper} {a : Act} {v : Value} : (a.put o.dst v).tmps.size = a.tmps.size := by
 cases o.dst <;> simp [Act.put]
theorem put_defers {o : Oper} {a : Act} {v : Value} : (a.put o.dst v).defers = a.defers := by
 cases o.dst <;> rfl
theorem Xx.skip {E : En} {N : Nat} {cx : Cx} {st : St} {a : Act} {w : World} {o : Oper} (h : Xx E N cx st a w) : Xx E N cx (Ef.ap ⟨.tup [], []⟩ o st) (a.put o.dst undef) w := by
 have hh : (Ef.ap ⟨.tup [], []⟩ o st).h = st.h := rfl
 refine ⟨by rw [put_defers]; exact h.defers, by rw [Ps]; exact h.size, fun s => ?_, h.bl, h.inj, h.own, h.A, h.A0, h.kept, h.sz, h.os, h.tape, h.output, h.hN, h.pin, h.cz⟩
 rw [hh]
 by_cases hd : o.dst = some s
 ·rw [EI hd]
  by_cases hs : s < a.tmps.size
  ·rw [Q5j hd hs]; exact ⟨#[], rfl, rfl, fun i t h => by simp at h⟩
  ·have : (a.put o.dst undef).tmps.getD s undef = undef := by
    rw [Array.getD_eq_getD_getElem?, Array.getElem?_eq_none (by rw [Ps]; omega)]; rfl
   rw [this]; exact ⟨#[], rfl, rfl, fun i t h => by simp at h⟩
 ·rw [Qen hd, put_eq hd]; exact h.fr s
theorem Qep {l : List Bool} {i : Nat} (h : l[i]? = some false) : (l.set i true).count false + 1 = l.count false := by
 induction l generalizing i with
 | nil => simp at h
 | cons b l ih =>
  cases i with
  | zero => simp only [List.getElem?_cons_zero, Option.some.injEq] at h; subst h; simp
  | succ i =>
   have := ih (i := i) (by simpa using h)
   simp only [List.set_cons_succ, List.count_cons]
   omega
section
variable {E : En} {N : Nat} {P : Program} {l : List Oper} {es : List (Fp × Ef)} {st st' : St}
theorem Q9j (hm : P.follows .mixedOrders = true) (hS : Qig N l = true) (hD : Q9h l es = true) (hq : Seq E N P l.toArray l st es st')
  (hF : ∀ (i : Nat) (f : Fp) (ef : Ef), es[i]? = some (f, ef) → ∀ b ∈ f.al, WA b st) {cx : Cx} {a : Act} {w : World} (hr : Xx E N cx st a w) {id : Nat} :
  (Code.region id l.toArray true).wp P (fun e a' w' => e = .normal ∧ ∃ cx', Xx E N cx' st' a' w') a w := by
 have hlen := hq.len
 obtain ⟨hat, hend⟩ := hq.at
 have hS := BN hS
 have hD := BN hD
 have hpred : ∀ (i : Nat) (o : Oper), l[i]? = some o → ∀ p ∈ DN o, p < i := by
  intro i o ho p hp
  have hi := (List.getElem?_eq_some_iff.1 ho).1
  have h1 := hS i hi
  simp only [Bool.and_eq_true] at h1
  have h2 := List.all_eq_true.1 h1.1.2 p (by rw [List.getD_eq_getElem?_getD, ho]; exact hp)
  exact Nat.le_of_ble_eq_true h2
 have hdst : ∀ (i : Nat) (o : Oper), l[i]? = some o → ∀ d, o.dst = some d → d < N := by
  intro i o ho d hd
  have hi := (List.getElem?_eq_some_iff.1 ho).1
  have h1 := hS i hi
  simp only [Bool.and_eq_true] at h1
  have h2 := h1.1.1
  rw [List.getD_eq_getElem?_getD, ho] at h2
  simp only [Option.getD_some, hd, Option.all_some] at h2
  exact Nat.le_of_ble_eq_true h2
 have hap : ∀ (j i : Nat) (oj oi : Oper), j < i → l[j]? = some oj → l[i]? = some oi → Oper.apart l.toArray oj oi = true ∨ j ∈ (Mn l []).getD i [] := by
  intro j i oj oi hji hj hi
  have hil := (List.getElem?_eq_some_iff.1 hi).1
  have h1 := hS i hil
  simp only [Bool.and_eq_true] at h1
  have h2 := BN h1.2 j hji
  rw [List.getD_eq_getElem?_getD, List.getD_eq_getElem?_getD, hi, hj] at h2
  simp only [Option.getD_some, Bool.or_eq_true, Q5h] at h2
  exact h2
 have hbl : ∀ (j i : Nat) (xj xi : Fp × Ef), j < i → es[j]? = some xj → es[i]? = some xi →
   (((∀ b ∈ xj.2.wb, b ∉ xi.1.rb ++ xi.2.wb) ∧ (∀ b ∈ xj.1.rb, b ∉ xi.2.wb) ∧ (∀ b ∈ xj.1.al, b ∉ xi.2.mt)) ∨ j ∈ (Mn l []).getD i []) ∧ ∀ b ∈ xi.1.al, b ∉ xj.2.mt := by
  intro j i xj xi hji hj hi
  have hil := (List.getElem?_eq_some_iff.1 hi).1
  have h2 := BN (hD i (by omega)) j hji
  rw [List.getD_eq_getElem?_getD (l := es), List.getD_eq_getElem?_getD (l := es), hi, hj] at h2
  simp only [Option.getD_some, Bool.and_eq_true, Bool.or_eq_true, Q5h] at h2
  exact ⟨Or.imp (fun h => ⟨VL h.1.1, VL h.1.2, VL h.2⟩) (fun h => h) h2.1, VL h2.2⟩
 have hsz : l.toArray.size = l.length := by simp
 refine wp_region_any hm ?_
 have key : ∀ (fuel : Nat) (listed : Array Bool) (cx : Cx) (a : Act) (w : World), listed.size = l.length → listed.toList.count false = fuel →
   (∀ (i : Nat) (o : Oper), l[i]? = some o → listed.getD i true = true → ∀ p ∈ DN o, listed.getD p true = true) →
   Xx E N cx (Ge (fun j => listed.getD j true) 0 (AT l es) st) a w →
   wpAny P .any l.toArray (fun e a' w' => e = .normal ∧ ∃ cx', Xx E N cx' st' a' w') fuel listed a w := by
  intro fuel
  induction fuel with
  | zero =>
   intro listed cx a w hls hc hcl hrel
   have hall : ∀ j, listed.getD j true = true := by
    intro j
    rw [Array.getD_eq_getD_getElem?]
    cases hj : listed[j]? with
    | none => rfl
    | some b =>
     cases b with
     | true => rfl
     | false =>
      exfalso
      have hm : false ∈ listed.toList := by
       rw [Array.mem_toList_iff]
       exact Array.mem_of_getElem? hj
      have := List.count_pos_iff.2 hm
      omega
   have he : (fun j => listed.getD j true) = fun _ => true := funext hall
   rw [he, hend 0] at hrel
   refine ⟨?_, rfl, cx, hrel⟩
   unfold Region.ready
   rw [List.filter_eq_nil_iff]
   intro i _ h
   rw [hall i] at h
   simp at h
  | succ fuel ih =>
   intro listed cx a w hls hc hcl hrel
   refine ⟨fun hre => ?_, fun i hi => ?_⟩
   ·exfalso
    -- some operation is not listed; the first such one is ready
    have hex : ∃ i, i < l.length ∧ listed.getD i true = false := by
     have hm : false ∈ listed.toList := by
      have : 0 < listed.toList.count false := by omega
      exact List.count_pos_iff.1 this
     obtain ⟨i, hi, he⟩ := List.getElem_of_mem hm
     refine ⟨i, by rw [← hls]; simpa using hi, ?_⟩
     rw [Array.getD_eq_getD_getElem?]
     have hi' : i < listed.size := by simpa using hi
     rw [Array.getElem?_eq_getElem hi']
     simpa using he
    have hmin : ∀ n i, i < n → i < l.length → listed.getD i true = false → False := by
     intro n
     induction n with
     | zero => intro i h; omega
     | succ n ihn =>
      intro i hin hil hif
      have hio : l[i]? = some l[i] := List.getElem?_eq_getElem hil
      have hp : ∀ p ∈ DN l[i], listed.getD p true = true := by
       intro p hp
       cases hv : listed.getD p true with
       | true => rfl
       | false =>
        have := hpred i _ hio p hp
        exact (ihn p (by omega) (by omega) hv).elim
      have hmem : i ∈ Region.ready .any l.toArray listed := by
       unfold Region.ready
       simp only [List.mem_filter, List.mem_range, hsz]
       refine ⟨hil, ?_⟩
       rw [hif]
       have hget : l.toArray[i]? = some l[i] := by simp [hio]
       rw [hget]
       simp only [Bool.not_false, Option.map_some, Option.getD_some, Bool.true_and, Array.all_eq_true_iff_forall_mem]
       intro e he
       cases hb : Region.binds .any e with
       | false => rfl
       | true =>
        have : listed.getD e.on true = true := hp e.on (by
         unfold DN
         rw [List.mem_map]
         exact ⟨e, List.mem_filter.2 ⟨Array.mem_toList_iff.2 he, hb⟩, rfl⟩)
        have hlt : e.on < listed.size := by
         have := hpred i _ hio e.on (by
          unfold DN
          rw [List.mem_map]
          exact ⟨e, List.mem_filter.2 ⟨Array.mem_toList_iff.2 he, hb⟩, rfl⟩)
         omega
        rw [Array.getD_eq_getD_getElem?, Array.getElem?_eq_getElem hlt] at this ⊢
        simpa using this
      rw [hre] at hmem
      cases hmem
    obtain ⟨i, h1, h2⟩ := hex
    exact hmin (i + 1) i (by omega) h1 h2
   ·unfold Region.ready at hi
    simp only [List.mem_filter, List.mem_range, hsz] at hi
    obtain ⟨hil, hi2⟩ := hi
    have hio : l[i]? = some l[i] := List.getElem?_eq_getElem hil
    generalize l[i] = o at hio
    have hget : l.toArray[i]? = some o := by simp [hio]
    rw [hget] at hi2
    simp only [Option.map_some, Option.getD_some, Bool.and_eq_true, Bool.not_eq_true', Array.all_eq_true_iff_forall_mem] at hi2
    obtain ⟨hif, hiall⟩ := hi2
    have hpl : ∀ p ∈ DN o, listed.getD p true = true := by
     intro p hp
     unfold DN at hp
     rw [List.mem_map] at hp
     obtain ⟨e, he, rfl⟩ := hp
     obtain ⟨he1, he2⟩ := List.mem_filter.1 he
     have := hiall e (Array.mem_toList_iff.1 he1)
     rw [he2] at this
     simp only [Bool.not_true, Bool.false_or] at this
     rw [Array.getD_eq_getD_getElem?] at this ⊢
     cases hx : listed[e.on]? with
     | none => rfl
     | some b => rw [hx] at this; simpa using this
    have hanc := Pr (l := l) (X := fun j => listed.getD j true) hcl i o hio hpl
    obtain ⟨fe, hfe⟩ : ∃ fe, es[i]? = some fe := ⟨_, List.getElem?_eq_getElem (by omega)⟩
    obtain ⟨f, ef⟩ := fe
    have hOp := hat i 0 o f ef hio hfe
    rw [Nat.zero_add] at hOp
    -- what is unordered to i does not meet it
    have hlater : ∀ (j : Nat) (oj : Oper), i < j → l[j]? = some oj → listed.getD j true = true → i ∉ (Mn l []).getD j [] := by
     intro j oj hij hj hlj hc
     have := Pr (l := l) (X := fun j => listed.getD j true) hcl j oj hj (hcl j oj hj hlj) i hc
     rw [hif] at this
     cases this
    have hagS : ∀ s ∈ o.looksAt l.toArray, (Ge (fun j => listed.getD j true) 0 (AT l es) st).g s = (Ge (fun j => decide (j < i)) 0 (AT l es) st).g s := by
     intro s hs
     refine O3 _ _ _ _ (fun j x hx hd => ?_) rfl
     obtain ⟨xo, xe⟩ := x
     obtain ⟨hj, g, hje⟩ := Wr hx
     rw [Nat.zero_add]
     rcases Nat.lt_trichotomy j i with h | h | h
     ·rcases hap j i xo o h hj hio with h2 | h2
      ·exact absurd hs ((Oper.apart_spec h2).1 s hd)
      ·rw [hanc j h2]; simp [h]
     ·subst h; rw [hif]; simp
     ·have : listed.getD j true = false := by
       cases hv : listed.getD j true with
       | false => rfl
       | true =>
        exfalso
        rcases hap i j o xo h hio hj with h2 | h2
        ·exact (Oper.apart_spec h2).2.2 s hd hs
        ·exact hlater j xo h hj hv h2
      rw [this]; simp; omega
    have hagB : ∀ b ∈ f.rb, (Ge (fun j => listed.getD j true) 0 (AT l es) st).h b = (Ge (fun j => decide (j < i)) 0 (AT l es) st).h b := by
     intro b hb
     refine O4 _ _ _ _ (fun j x hx hd => ?_) rfl
     obtain ⟨xo, xe⟩ := x
     obtain ⟨hj, g, hje⟩ := Wr hx
     rw [Nat.zero_add]
     rcases Nat.lt_trichotomy j i with h | h | h
     ·rcases (hbl j i _ _ h hje hfe).1 with h2 | h2
      ·exact absurd (List.mem_append_left _ hb) (h2.1 b hd)
      ·rw [hanc j h2]; simp [h]
     ·subst h; rw [hif]; simp
     ·have : listed.getD j true = false := by
       cases hv : listed.getD j true with
       | false => rfl
       | true =>
        exfalso
        rcases (hbl i j _ _ h hfe hje).1 with h2 | h2
        ·exact h2.2.1 b hb hd
        ·exact hlater j xo h hj hv h2
      rw [this]; simp; omega
    have hset : ∀ j, (listed.setIfInBounds i true).getD j true = (decide (j = i) || listed.getD j true) := by
     intro j
     rw [Array.getD_eq_getD_getElem?, Array.getD_eq_getD_getElem?]
     by_cases e : j = i
     ·subst e
      rw [Array.getElem?_setIfInBounds_self]
      simp
      split <;> rfl
     ·rw [Array.getElem?_setIfInBounds_ne (fun h => e h.symm)]
      simp [e]
    -- the state with i
    have hAl : Alike (ef.ap o (Ge (fun j => listed.getD j true) 0 (AT l es) st)) (Ge (fun j => (listed.setIfInBounds i true).getD j true) 0 (AT l es) st) := by
     constructor
     ·intro s
      by_cases hd : o.dst = some s
      ·rw [EI hd]
       refine Pp hd _ 0 i _ (P6 hio hfe) (by rw [hset]; simp) (fun j x hij hx hxd => ?_)
       obtain ⟨xo, xe⟩ := x
       obtain ⟨hj, g, hje⟩ := Wr hx
       rw [hset, Nat.zero_add]
       have : j ≠ i := by omega
       cases hv : listed.getD j true with
       | false => simp [this]
       | true =>
        exfalso
        rcases hap i j o xo hij hio hj with h2 | h2
        ·exact (Oper.apart_spec h2).2.1 s hd hxd
        ·exact hlater j xo hij hj hv h2
      ·rw [Qen hd]
       refine O3 _ _ _ _ (fun j x hx hxd => ?_) rfl
       obtain ⟨xo, xe⟩ := x
       obtain ⟨hj, g, hje⟩ := Wr hx
       rw [hset, Nat.zero_add]
       have : j ≠ i := by
        rintro rfl
        rw [hio] at hj
        cases hj
        exact hd hxd
       simp [this]
     ·intro b
      by_cases hd : b ∈ ef.bl.map (·.1)
      ·refine Pq (o := o) hd _ 0 i _ (P6 hio hfe) (by rw [hset]; simp) (fun j x hij hx hxd => ?_)
       obtain ⟨xo, xe⟩ := x
       obtain ⟨hj, g, hje⟩ := Wr hx
       rw [hset, Nat.zero_add]
       have : j ≠ i := by omega
       cases hv : listed.getD j true with
       | false => simp [this]
       | true =>
        exfalso
        rcases (hbl i j _ _ hij hfe hje).1 with h2 | h2
        ·exact h2.1 b hd (List.mem_append_right _ hxd)
        ·exact hlater j xo hij hj hv h2
      ·rw [Qif hd]
       refine O4 _ _ _ _ (fun j x hx hxd => ?_) rfl
       obtain ⟨xo, xe⟩ := x
       obtain ⟨hj, g, hje⟩ := Wr hx
       rw [hset, Nat.zero_add]
       have : j ≠ i := by
        rintro rfl
        rw [hfe] at hje
        cases hje
        exact hd hxd
       simp [this]
    have hcl' : ∀ (i' : Nat) (o' : Oper), l[i']? = some o' → (listed.setIfInBounds i true).getD i' true = true → ∀ p ∈ DN o', (listed.setIfInBounds i true).getD p true = true := by
     intro i' o' ho' hl' p hp
     rw [hset] at hl' ⊢
     by_cases e : i' = i
     ·subst e
      rw [hio] at ho'
      cases ho'
      rw [hpl p hp]; simp
     ·simp only [e, decide_false, Bool.false_or] at hl'
      rw [hcl i' o' ho' hl' p hp]; simp
    have hcnt : (listed.setIfInBounds i true).toList.count false = fuel := by
     have hx : listed.toList[i]? = some false := by
      have hlt : i < listed.size := by omega
      rw [Array.getD_eq_getD_getElem?, Array.getElem?_eq_getElem hlt] at hif
      rw [Array.getElem?_toList, Array.getElem?_eq_getElem hlt]
      simpa using hif
     have := Qep hx
     rw [Array.toList_setIfInBounds]
     omega
    have hfin : ∀ (cx' : Cx) (a' : Act) (w' : World), Xx E N cx' (ef.ap o (Ge (fun j => listed.getD j true) 0 (AT l es) st)) a' w' →
      wpAny P .any l.toArray (fun e a' w' => e = .normal ∧ ∃ cx', Xx E N cx' st' a' w') fuel (listed.setIfInBounds i true) a' w' :=
     fun cx' a' w' h => ih _ cx' a' w' (by simp [hls]) hcnt hcl' (h.alike hAl)
    unfold wpOp
    rw [hget]
    simp only
    rcases hOp with ⟨h1, h2⟩ | ⟨h1, h2, h3⟩
    ·rw [← Ml hagS] at h1
     rw [Iv hrel h1, if_pos rfl]
     refine .inl ?_
     have hfr : ∀ b ∈ f.al, WA b (Ge (fun j => listed.getD j true) 0 (AT l es) st) := by
      intro b hb
      refine Q05 _ _ _ (hF i f ef hfe b hb) (fun j x hx hX => ?_)
      rw [Nat.zero_add] at hX
      obtain ⟨xo, xe⟩ := x
      obtain ⟨hj, g, hje⟩ := Wr hx
      rcases Nat.lt_trichotomy j i with h | h | h
      ·exact (hbl j i _ _ h hje hfe).2 b hb
      ·subst h; rw [hif] at hX; cases hX
      ·rcases (hbl i j _ _ h hfe hje).1 with h3 | h3
       ·exact h3.2.2 b hb
       ·exact absurd h3 (hlater j xo h hj hX)
     refine Oper.wp_mono (fun a' w' ⟨cx', h⟩ => hfin cx' a' w' h) (h2 _ ⟨hagS, hagB⟩ hfr (hdst i o hio) cx a w _ hrel)
    ·rw [← Ml hagS] at h1
     rw [Iv hrel h1, if_neg (by simp)]
     subst h3
     exact hfin cx _ _ hrel.skip
 have h0 := key l.length (Array.replicate l.length false) cx a { w with drawn := w.drawn + 1 } (by simp) (by simp) (by
  intro i o ho hl
  have hi := (List.getElem?_eq_some_iff.1 ho).1
  rw [Array.getD_eq_getD_getElem?, Array.getElem?_replicate, if_pos hi] at hl
  simp at hl) (by
  have : Alike st (Ge (fun j => (Array.replicate l.length false).getD j true) 0 (AT l es) st) := by
   have e : Ge (fun _ => false) 0 (AT l es) st = st := Mm _ _ _
   have hX : ∀ (j : Nat) (x : Oper × Ef), (AT l es)[j]? = some x → (Array.replicate l.length false).getD (0 + j) true = false := by
    intro j x hx
    obtain ⟨xo, xe⟩ := x
    obtain ⟨hj, _⟩ := Wr hx
    have hi := (List.getElem?_eq_some_iff.1 hj).1
    rw [Nat.zero_add, Array.getD_eq_getD_getElem?, Array.getElem?_replicate, if_pos hi]; rfl
   constructor
   ·intro s
    conv => rhs; rw [← e]
    exact O3 _ _ _ _ (fun j x hx _ => (hX j x hx).symm) rfl
   ·intro s
    conv => rhs; rw [← e]
    exact O4 _ _ _ _ (fun j x hx _ => (hX j x hx).symm) rfl
  exact hr.drew.alike this)
 rw [hsz]
 exact h0
theorem Qii {o : Oper} {f : Fp} {ef : Ef} {i : Nat} (hio : l[i]? = some o) (hfe : es[i]? = some (f, ef)) : Alike (ef.ap o (Ge (fun j => decide (j < i)) 0 (AT l es) st)) (Ge (fun j => decide (j < i + 1)) 0 (AT l es) st) := by
 constructor
 ·intro s
  by_cases hd : o.dst = some s
  ·rw [EI hd]
   exact Pp hd _ 0 i _ (P6 hio hfe) (by simp) (fun j x hij hx hxd => by simp; omega)
  ·rw [Qen hd]
   refine O3 _ _ _ _ (fun j x hx hxd => ?_) rfl
   obtain ⟨xo, xe⟩ := x
   obtain ⟨hj, g, hje⟩ := Wr hx
   have : j ≠ i := by
    rintro rfl
    rw [hio] at hj
    cases hj
    exact hd hxd
   simp; omega
 ·intro b
  by_cases hd : b ∈ ef.bl.map (·.1)
  ·exact Pq (o := o) hd _ 0 i _ (P6 hio hfe) (by simp) (fun j x hij hx hxd => by simp; omega)
  ·rw [Qif hd]
   refine O4 _ _ _ _ (fun j x hx hxd => ?_) rfl
   obtain ⟨xo, xe⟩ := x
   obtain ⟨hj, g, hje⟩ := Wr hx
   have : j ≠ i := by
    rintro rfl
    rw [hfe] at hje
    cases hje
    exact hd hxd
   simp; omega
theorem Q5k (hN : Q9i N l = true) (hD : Q0z es = true) (hq : Seq E N P l.toArray l st es st')
  (hF : ∀ (i : Nat) (f : Fp) (ef : Ef), es[i]? = some (f, ef) → ∀ b ∈ f.al, WA b st) {cx : Cx} {a : Act} {w : World} (hr : Xx E N cx st a w) {id : Nat} :
  (Code.region id l.toArray false).wp P (fun e a' w' => e = .normal ∧ ∃ cx', Xx E N cx' st' a' w') a w := by
 have hlen := hq.len
 obtain ⟨hat, hend⟩ := hq.at
 have hD := BN hD
 refine wp_region ?_
 have key : ∀ (k i : Nat) (cx : Cx) (a : Act) (w : World), i + k = l.length → Xx E N cx (Ge (fun j => decide (j < i)) 0 (AT l es) st) a w →
   wpOps P l.toArray (fun e a' w' => e = .normal ∧ ∃ cx', Xx E N cx' st' a' w') (List.range' i k) a w := by
  intro k
  induction k with
  | zero =>
   intro i cx a w hi hrel
   refine ⟨rfl, cx, hrel.alike ?_⟩
   rw [← hend 0]
   have hX : ∀ (j : Nat) (x : Oper × Ef), (AT l es)[j]? = some x → true = decide (0 + j < i) := by
    intro j x hx
    obtain ⟨xo, xe⟩ := x
    obtain ⟨hj, _⟩ := Wr hx
    have := (List.getElem?_eq_some_iff.1 hj).1
    simp; omega
   exact ⟨fun s => O3 _ _ _ _ (fun j x hx _ => (hX j x hx).symm) rfl, fun s => O4 _ _ _ _ (fun j x hx _ => (hX j x hx).symm) rfl⟩
  | succ k ih =>
   intro i cx a w hi hrel
   rw [List.range'_succ, wpOps_cons]
   have hil : i < l.length := by omega
   have hio : l[i]? = some l[i] := List.getElem?_eq_getElem hil
   generalize l[i] = o at hio
   have hget : l.toArray[i]? = some o := by simp [hio]
   obtain ⟨fe, hfe⟩ : ∃ fe, es[i]? = some fe := ⟨_, List.getElem?_eq_getElem (by omega)⟩
   obtain ⟨f, ef⟩ := fe
   have hOp := hat i 0 o f ef hio hfe
   rw [Nat.zero_add] at hOp
   have hdst : ∀ d, o.dst = some d → d < N := by
    intro d hd
    have h1 := List.all_eq_true.1 hN o (List.mem_of_getElem? hio)
    rw [hd] at h1
    simp only [Option.all_some] at h1
    exact Nat.le_of_ble_eq_true h1
   have hfin : ∀ (cx' : Cx) (a' : Act) (w' : World), Xx E N cx' (ef.ap o (Ge (fun j => decide (j < i)) 0 (AT l es) st)) a' w' →
     wpOps P l.toArray (fun e a' w' => e = .normal ∧ ∃ cx', Xx E N cx' st' a' w') (List.range' (i + 1) k) a' w' :=
    fun cx' a' w' h => ih (i + 1) cx' a' w' (by omega) (h.alike (Qii hio hfe))
   unfold wpOp
   rw [hget]
   simp only
   rcases hOp with ⟨h1, h2⟩ | ⟨h1, h2, h3⟩
   ·rw [Iv hrel h1, if_pos rfl]
    refine .inl ?_
    have hfr : ∀ b ∈ f.al, WA b (Ge (fun j => decide (j < i)) 0 (AT l es) st) := by
     intro b hb
     refine Q05 _ _ _ (hF i f ef hfe b hb) (fun j x hx hX => ?_)
     rw [Nat.zero_add] at hX
     have hji : j < i := of_decide_eq_true hX
     obtain ⟨xo, xe⟩ := x
     obtain ⟨hj, g, hje⟩ := Wr hx
     have h3 := BN (hD i (by omega)) j hji
     rw [List.getD_eq_getElem?_getD, List.getD_eq_getElem?_getD, hfe, hje] at h3
     exact VL h3 b hb
    refine Oper.wp_mono (fun a' w' ⟨cx', h⟩ => hfin cx' a' w' h) (h2 _ ⟨fun _ _ => rfl, fun _ _ => rfl⟩ hfr hdst cx a w _ hrel)
   ·rw [Iv hrel h1, if_neg (by simp)]
    subst h3
    exact hfin cx _ _ hrel.skip
 have h0 := key l.length 0 cx a w (by omega) (hr.alike (by
  have e : Ge (fun _ => false) 0 (AT l es) st = st := Mm _ _ _
  constructor
  ·intro s
   conv => rhs; rw [← e]
   exact O3 _ _ _ _ (fun j x hx _ => by simp) rfl
  ·intro s
   conv => rhs; rw [← e]
   exact O4 _ _ _ _ (fun j x hx _ => by simp) rfl))
 rw [List.range_eq_range']
 simpa using h0
end
def Cmp (cx : Cx) (w : World) (h : Qw → Option Bk) (cx' : Cx) (w' : World) (h' : Qw → Option Bk) (b : Qw) : Prop :=
 ∀ bk', h' b = some bk' → ∃ bk, h b = some bk ∧ bk.e = bk'.e ∧ bk.len ≤ bk'.len ∧ cx'.ι b = cx.ι b ∧
  ∀ g o c el fz, cx.ι b = some (g, o) → w.heap[g]? = some (.cells c el fz) → ∃ c' el' fz', w'.heap[g]? = some (.cells c' el' fz') ∧ (0 < bk'.e → c'.size = c.size)
section
variable {cx cx' : Cx} {w w' : World} {h h' : Qw → Option Bk}
theorem RC.tr {c : CV} {v : Value} (hA : ∀ g, cx.A g → cx'.A g) (hk : Xg cx.A w w') (hb : ∀ b ∈ c.ment, Cmp cx w h cx' w' h' b) (hr : RC cx w h c v) : RC cx' w' h' c v := by
 cases c with
 | any => trivial
 | p x => exact hr.keeps hA hk
 | ptr b i k =>
  intro bk' hbk
  obtain ⟨bk, h1, h2, h3, h4, h5⟩ := hb b (by simp [CV.ment]) bk' hbk
  obtain ⟨g, o, h6, h7⟩ := hr bk h1
  exact ⟨g, o, by rw [h4, h6], by rw [h7, h2]⟩
 | sl b off n =>
  intro bk' hbk
  obtain ⟨bk, h1, h2, h3, h4, h5⟩ := hb b (by simp [CV.ment]) bk' hbk
  obtain ⟨a, cap, h6, h7, h8, h9, h10⟩ := hr bk h1
  refine ⟨a, cap, h6, h7, h8, by omega, ?_⟩
  rcases h10 with h10 | ⟨g, c, el, fz, h11, h12, h13, h14⟩
  ·exact .inl h10
  ·obtain ⟨c', el', fz', h15, h16⟩ := h5 g 0 c el fz h11 h13
   refine .inr ⟨g, c', el', fz', by rw [h4, h11], by rw [h12, h2], h15, ?_⟩
   intro he
   rw [h16 he, h14 (by rw [h2]; exact he), h2]
 | ep row k =>
  obtain ⟨g, off, h1, h2, h3, h4⟩ := hr
  refine ⟨g, off, h1, hA g h2, Nat.lt_of_lt_of_le h3 hk.sz, fun j p hp => ?_⟩
  obtain ⟨c, hc, hp⟩ := h4 j p hp
  exact ⟨c, by rw [World.cell?_of_block (w := w) (hk.bl g h2 h3)]; exact hc, hp.keeps hA hk⟩
 | mp b =>
  intro bk' hbk
  obtain ⟨bk, h1, h2, h3, h4, h5⟩ := hb b (by simp [CV.ment]) bk' hbk
  obtain ⟨g, h6, h7⟩ := hr bk h1
  exact ⟨g, by rw [h4, h6], h7⟩
theorem Ni {cs : List CV} {i : Nat} {c : CV} (h : cs[i]? = some c) {b : Qw} (hb : b ∈ c.ment) : b ∈ AJ cs := by
 unfold AJ
 rw [List.mem_flatMap]
 exact ⟨c, List.mem_of_getElem? h, hb⟩
theorem RL.tr {cs : List CV} {vs : Array Value} (hA : ∀ g, cx.A g → cx'.A g) (hk : Xg cx.A w w') (hb : ∀ b ∈ AJ cs, Cmp cx w h cx' w' h' b) (hr : RL cx w h cs vs) : RL cx' w' h' cs vs :=
 ⟨hr.1, fun i c hc => let ⟨u, hu, h1, hx⟩ := hr.2 i c hc; ⟨u, hu, h1, hx.tr hA hk fun b hbm => hb b (Ni hc hbm)⟩⟩
theorem RT1.tr {t : TV} {v : Value} (hA : ∀ g, cx.A g → cx'.A g) (hk : Xg cx.A w w') (hb : ∀ b ∈ t.ment1, Cmp cx w h cx' w' h' b) (hr : RT1 cx w h t v) : RT1 cx' w' h' t v := by
 cases t with
 | c x => exact ⟨hr.1, RC.tr hA hk hb hr.2⟩
 | agg cs => obtain ⟨vs, h1, h2⟩ := hr; exact ⟨vs, h1, h2.tr hA hk hb⟩
 | tup ts => exact hr
theorem RT.tr {t : TV} {v : Value} (hA : ∀ g, cx.A g → cx'.A g) (hk : Xg cx.A w w') (hb : ∀ b ∈ t.ment, Cmp cx w h cx' w' h' b) (hr : RT cx w h t v) : RT cx' w' h' t v := by
 cases t with
 | c x => exact ⟨hr.1, RC.tr hA hk hb hr.2⟩
 | agg cs => obtain ⟨vs, h1, h2⟩ := hr; exact ⟨vs, h1, h2.tr hA hk hb⟩
 | tup ts =>
  obtain ⟨vs, h1, h2, h3⟩ := hr
  refine ⟨vs, h1, h2, fun i t ht => ?_⟩
  obtain ⟨u, hu, hx⟩ := h3 i t ht
  refine ⟨u, hu, hx.tr hA hk fun b hbm => hb b ?_⟩
  simp only [TV.ment, List.mem_flatMap]
  exact ⟨t, List.mem_of_getElem? ht, hbm⟩
theorem RB.tr {b : Qw} {bk : Bk} (hA : ∀ g, cx.A g → cx'.A g) (hk : Xg cx.A w w') (hb : ∀ b ∈ bk.ment, Cmp cx w h cx' w' h' b) (hi : cx'.ι b = cx.ι b)
  (hg : ∀ g o, cx.ι b = some (g, o) → w'.heap[g]? = w.heap[g]? ∧ (¬ cx.A g → ¬ cx'.A g)) (hr : RB cx w h b bk) : RB cx' w' h' b bk := by
 cases bk with
 | row e rows mu =>
  obtain ⟨h0, h1, h2⟩ := hr
  refine ⟨h0, h1, ?_⟩
  rw [hi]
  revert h2 hg
  cases cx.ι b with
  | none => exact fun _ h => h
  | some x =>
   obtain ⟨g, o⟩ := x
   intro hg
   obtain ⟨hg1, hg2⟩ := hg g o rfl
   rintro ⟨h3, c, el, fz, capR, h4, h5, h6, h7, h8, h9, h10⟩
   refine ⟨h3, c, el, fz, capR, by rw [hg1]; exact h4, fun hm => ⟨(h5 hm).1, hg2 (h5 hm).2⟩, fun hm => hA g (h6 hm), h7, h8, h9, fun i r k p hir hk' => ?_⟩
   obtain ⟨cv, hc, hp⟩ := h10 i r k p hir hk'
   exact ⟨cv, hc, hp.keeps hA hk⟩
 | box cs f =>
  obtain ⟨g, o, c, el, h1, h2, h3, h4, h5, h6⟩ := hr
  obtain ⟨hg1, hg2⟩ := hg g o h1
  exact ⟨g, o, c, el, by rw [hi, h1], by rw [hg1]; exact h2, hg2 h3, h4, fun k x hx => let ⟨cv, hc, h1, hp⟩ := h5 k x hx; ⟨cv, hc, h1, hp.tr hA hk fun b hbm => hb b (Ni hx hbm)⟩, h6.imp fun _ _ h => h.keeps hA hk⟩
 | map ks =>
  obtain ⟨g, es, clk, h1, h2, h3, h4⟩ := hr
  obtain ⟨hg1, hg2⟩ := hg g 0 h1
  exact ⟨g, es, clk, by rw [hi, h1], by rw [hg1]; exact h2, hg2 h3, h4⟩
end
section
variable {E : En} {N : Nat} {cx cx' : Cx} {st : St} {a : Act} {w w' : World} {o : Oper} {ef : Ef} {v : Value}
theorem Xx.step (hr : Xx E N cx st a w) (hd : ∀ d, o.dst = some d → d < N) (al : List Qw) (hal : ∀ b ∈ al, WA b st)
  (hA : ∀ g, cx.A g → cx'.A g) (hA' : ∀ g, cx'.A g → cx.A g ∨ (g < w'.heap.size ∧ (E.w0.heap.size ≤ g ∨ E.M g)))
  (hk : Xg cx.A w w') (hkept : ∀ g, g < E.w0.heap.size → ¬ E.M g → w'.heap[g]? = w.heap[g]?) (hos : w'.os = w.os) (htape : w'.tape = w.tape) (hout : w'.output = w.output)
  (hcmp : ∀ b, b ∉ al → Cmp cx w st.h cx' w' (ef.ap o st).h b)
  (hbl : ∀ b bk', (ef.ap o st).h b = some bk' →
   (b ∉ al ∧ st.h b = some bk' ∧ cx'.ι b = cx.ι b ∧ ∀ g o, cx.ι b = some (g, o) → w'.heap[g]? = w.heap[g]? ∧ (¬ cx.A g → ¬ cx'.A g)) ∨ RB cx' w' (ef.ap o st).h b bk')
  (hinj : ∀ b b' g o g' o', (ef.ap ‹Oper› st).h b ≠ none → (ef.ap ‹Oper› st).h b' ≠ none → cx'.ι b = some (g, o) → cx'.ι b' = some (g', o') → b ≠ b' → g ≠ g')
  (hown : ∀ b g o, (ef.ap ‹Oper› st).h b ≠ none → cx'.ι b = some (g, o) → g < w'.heap.size ∧ (E.w0.heap.size ≤ g ∨ E.M g))
  (ht : RT cx' w' (ef.ap o st).h ef.t v) (hpin : ∀ b, Q5g b → cx'.ι b = cx.ι b) : Xx E N cx' (ef.ap o st) (a.put o.dst v) w' := by
 have hne : ∀ {l : List Qw}, (∀ b ∈ al, b ∉ l) → ∀ b ∈ l, Cmp cx w st.h cx' w' (ef.ap o st).h b := fun hl b hb => hcmp b fun hba => hl b hba hb
 refine ⟨by rw [put_defers]; exact hr.defers, by rw [Ps]; exact hr.size, fun s => ?_, fun b bk hb => ?_, hinj, hown, fun g hg => ?_, fun g hg => hA g (hr.A0 g hg),
  fun g h1 h2 => (hkept g h1 h2).trans (hr.kept g h1 h2), Nat.le_trans hr.sz hk.sz, hos.trans hr.os, htape.trans hr.tape, hout.trans hr.output, hr.hN, fun b hb => (hpin b hb).trans (hr.pin b hb), hr.cz.trans hk.cz⟩
 ·by_cases hs : o.dst = some s
  ·rw [EI hs, Q5j hs (by rw [hr.size]; exact hd s hs)]; exact ht
  ·rw [Qen hs, put_eq hs]
   exact (hr.fr s).tr hA hk (hne fun b hb => (hal b hb).2.1 s)
 ·rcases hbl b bk hb with ⟨h1, h2, h3, h4⟩ | h1
  ·exact (hr.bl b bk h2).tr hA hk (hne fun b' hb' => (hal b' hb').2.2 b bk h2) h3 h4
  ·exact h1
 ·rcases hA' g hg with h1 | h1
  ·obtain ⟨h2, h3⟩ := hr.A g h1
   exact ⟨Nat.lt_of_lt_of_le h2 hk.sz, h3⟩
  ·exact ⟨h1.1, .inr h1.2⟩
theorem Xg.refl (A : Nat → Prop) (w : World) : Xg A w w := ⟨Nat.le_refl _, fun _ _ _ => rfl, .refl _⟩
theorem Xx.put (hr : Xx E N cx st a w) (hd : ∀ d, o.dst = some d → d < N) {t : TV} (ht : RT cx w st.h t v) : Xx E N cx (Ef.ap ⟨t, []⟩ o st) (a.put o.dst v) w := by
 have hh : (Ef.ap ⟨t, []⟩ o st).h = st.h := rfl
 refine hr.step (ef := ⟨t, []⟩) hd [] (fun b hb => by cases hb) (fun _ h => h) (fun _ h => .inl h) (Xg.refl _ _) (fun _ _ _ => rfl) rfl rfl rfl ?_ ?_ ?_ ?_ ht (fun _ _ => rfl)
 ·intro b _ bk' hb
  rw [hh] at hb
  exact ⟨bk', hb, rfl, Nat.le_refl _, rfl, fun g o c el fz _ h => ⟨c, el, fz, h, fun _ => rfl⟩⟩
 ·intro b bk' hb
  exact .inl ⟨by simp, hb, rfl, fun g o _ => ⟨rfl, fun h => h⟩⟩
 ·exact hr.inj
 ·exact hr.own
variable {P : Program} {ops : Array Oper} {f : Fp}
theorem Ut {K : Act → World → Prop} {Q : Exit → Act → World → Prop} (hrun : (execOp a.eval o).run P w = .ok (.value v) w') (h : K (a.put o.dst v) w') : o.wp P a w K Q := by
 unfold Oper.wp
 rw [hrun]; exact h
theorem upon_skip {K : Act → World → Prop} {Q : Exit → Act → World → Prop} (hrun : (execOp a.eval o).run P w = .ok .skip w') (h : K (a.put o.dst undef) w') : o.wp P a w K Q := by
 unfold Oper.wp
 rw [hrun]; exact h
theorem Z8 {t : TV} {rb : List Qw}
  (h : ∀ st' cx a w, Agree ops o ⟨rb, []⟩ st st' → Xx E N cx st' a w → ∃ v, (execOp a.eval o).run P w = .ok (.value v) w ∧ RT cx w st'.h t v) :
  ZC E N P ops o st ⟨rb, []⟩ ⟨t, []⟩ := by
 intro st' ha _ hd cx a w Q hr
 obtain ⟨v, h1, h2⟩ := h st' cx a w ha hr
 exact Ut h1 ⟨cx, hr.put hd h2⟩
def St.ev (st : St) : Operand → TV
 | .tmp t => st.g t
 | .const (.agg cs) => .agg (cs.toList.map fun v => .p (.v v))
 | .const v => .c (.p (.v v))
 | _ => .c .any
def Zf : Operand → Bool
 | .const (.agg cs) => cs.toList.all Jm
 | .const v => Jm v
 | _ => true
theorem Qij {x : Operand} (hx : x ∈ o.op.operands.toList) : ∀ t, x = .tmp t → t ∈ o.looksAt ops := by
 intro t ht
 subst ht
 unfold Oper.looksAt
 rw [List.mem_append]
 left
 rw [List.mem_filterMap]
 exact ⟨_, hx, rfl⟩
theorem JK {st st' : St} (ha : Agree ops o f st st') {x : Operand} (hx : x ∈ o.op.operands.toList) : st'.ev x = st.ev x := by
 cases x with
 | tmp t => exact ha.1 t (Qij hx t rfl)
 | const v => cases v <;> rfl
 | global g => rfl
 | func g => rfl
theorem Xx.ev (hr : Xx E N cx st a w) {x : Operand} (hc : Zf x = true) : RT cx w st.h (st.ev x) (a.eval x) := by
 cases x with
 | tmp t => exact hr.fr t
 | const v =>
  cases v with
  | agg cs =>
   refine ⟨cs, rfl, by simp, fun i c hi => ?_⟩
   rw [List.getElem?_map] at hi
   cases hci : cs.toList[i]? with
   | none => rw [hci] at hi; cases hi
   | some u =>
    rw [hci] at hi
    simp only [Option.map_some, Option.some.injEq] at hi
    subst hi
    have hat := List.all_eq_true.1 hc u (List.mem_of_getElem? hci)
    refine ⟨u, by simpa using hci, V3 hat, .v u ?_⟩
    exact List.all_eq_true.1 hc u (List.mem_of_getElem? hci)
  | _ => exact ⟨.inr (V3 hc), RP.v _ hc⟩
 | global g => exact ⟨.inl rfl, trivial⟩
 | func g => exact ⟨.inl rfl, trivial⟩
end
inductive KD where
 | int (k : IntKind) | bool | string | slice (e : Nat) | array (n e : Nat) | struct (fs : List (Nat × Nat)) | ptr (e : Nat) | other
def KD.agg : KD → Bool
 | .array _ _ | .struct _ => true
 | _ => false
def Oj : TypeDesc → KD
 | .int k => .int k
 | .bool => .bool
 | .string => .string
 | .slice e => .slice e
 | .array n e => .array n e
 | .struct fs => .struct (fs.toList.map fun f => (f.offset, f.type))
 | .pointer e => .ptr e
 | _ => .other
structure TE where
 kd : KD
 size : Nat
 bytes : Nat
 zero : Value
def Ol (P : Program) (t : Nat) : Option TE :=
 match P.underlying t, P.info? t with
 | some d, some i => i.zero.map fun z => ⟨Oj d, i.size, i.bytes, z⟩
 | _, _ => none
class Tb (P : Program) where
 ty : List (Nat × TE)
 ok : ∀ t x, Zn ty t = some x → Ol P t = some x
theorem tb_of {P : Program} {l : List (Nat × TE)} (h : ∀ y ∈ l, Ol P y.1 = some y.2) : ∀ t x, Zn l t = some x → Ol P t = some x := fun t x ht => h (t, x) (Q0y ht)
section
variable {P : Program} {t : Nat} {x : TE} {w : World}
theorem YI (h : Ol P t = some x) : ∃ d i, P.underlying t = some d ∧ P.info? t = some i ∧ Oj d = x.kd ∧ i.size = x.size ∧ i.bytes = x.bytes ∧ i.zero = some x.zero := by
 unfold Ol at h
 split at h
 ·rename_i d i hd hi
  rw [Option.map_eq_some_iff] at h
  obtain ⟨z, hz, rfl⟩ := h
  exact ⟨d, i, hd, hi, rfl, rfl, rfl, hz⟩
 ·cases h
theorem Uu {d : TypeDesc} (h : P.underlying t = some d) (w : World) : (underlying t).run P w = .ok d w := run_underlying h w
theorem Qcl {i : TypeInfo} (h : P.info? t = some i) (w : World) : (typeInfo t).run P w = .ok i w := by
 simp [typeInfo, program, Sem.run_bind, h, Sem.run]
theorem Uv (h : Ol P t = some x) (w : World) : (sizeOf t).run P w = .ok x.size w := by
 obtain ⟨d, i, hd, hi, h1, h2, h3, h4⟩ := YI h
 simp [sizeOf, Sem.run_bind, Qcl hi, Sem.run_pure, h2]
theorem Q06 (h : Ol P t = some x) (w : World) : (isAgg t).run P w = .ok x.kd.agg w := by
 obtain ⟨d, i, hd, hi, h1, h2, h3, h4⟩ := YI h
 rw [← h1]
 cases d <;> simp [isAgg, Sem.run_bind, Uu hd, Oj, KD.agg, Sem.run_pure]
theorem Qik (h : Ol P t = some x) (w : World) : (zeroValue t).run P w = .ok x.zero w := by
 obtain ⟨d, i, hd, hi, h1, h2, h3, h4⟩ := YI h
 simp [zeroValue, Sem.run_bind, Qcl hi, h4, Sem.run_pure]
theorem Qer {a : Addr} {v : Value} (hc : w.cell? a = some v) : (load a).run P w = .ok v w := by
 unfold load
 simp only [Sem.run]
 split
 ·rename_i v' h'; rw [hc] at h'; cases h'; rfl
 ·rename_i h'; rw [hc] at h'; cases h'
theorem FV {a : Addr} {v : Value} (h : Ol P t = some x) (hx : x.kd.agg = false) (hc : w.cell? a = some v) : (loadVar t a).run P w = .ok v w := by
 unfold loadVar
 simp only [Sem.run_bind, Q06 h, hx, Result.andThen_ok]
 exact Qer hc
theorem H7 {a : Addr} {us : List Value} (h : Ol P t = some x) (hx : x.kd.agg = true) (hs : x.size = us.length) (hc : ∀ (j : Nat) (u : Value), us[j]? = some u → w.cell? (a.add j) = some u) : (loadVar t a).run P w = .ok (.agg us.toArray) w := by
 simp [loadVar, Sem.run_bind, Q06 h, hx, Uv h, hs, run_loadCells_list w a us hc, Sem.run_pure]
end
theorem addr_add (g q j : Nat) : (⟨g, q, none⟩ : Addr).add j = ⟨g, q + j, none⟩ := by unfold Addr.add; split <;> simp_all
section
variable {E : En} {N : Nat} {P : Program} {ops : Array Oper} {o : Oper} {st : St} {r : List Oper} {acc : List (Fp × Ef)} {K : List (Fp × Ef) → St → Prop} {d : Nat} {ty : Nat} {pos : String} {af : Array Edge} {gd : Option (Nat × Bool)}
def Ac (E : En) (N : Nat) (P : Program) (ops : Array Oper) : List Oper → List (Fp × Ef) → St → (List (Fp × Ef) → St → Prop) → Prop
 | [], acc, st, K => K acc st
 | o :: r, acc, st, K => ∃ f ef, Qzd E N P ops o st f ef ∧ Ac E N P ops r ((f, ef) :: acc) (ef.ap o st) K
theorem Qcm : ∀ {l : List Oper} {acc : List (Fp × Ef)} {st : St}, Ac E N P ops l acc st K → ∃ es st', Seq E N P ops l st es st' ∧ K (es.reverse ++ acc) st' := by
 intro l
 induction l with
 | nil => intro acc st h; unfold Ac at h; exact ⟨[], st, .nil st, by simpa using h⟩
 | cons o l ih =>
  intro acc st h
  obtain ⟨f, ef, h1, h2⟩ := h
  obtain ⟨es, st', h3, h4⟩ := ih h2
  exact ⟨(f, ef) :: es, st', .cons h1 h3, by simpa using h4⟩
theorem Q10 (h : K acc st) : Ac E N P ops [] acc st K := by unfold Ac; exact h
variable {op : Op} {f : Fp} {t : TV} {fr : List (Nat × TV)} {H : List (Qw × Option Bk)}
theorem Qr5 (hw : wn ops ⟨some d, op, ty, pos, af, gd⟩ ⟨fr, H⟩ = some true) (hop : ZC E N P ops ⟨some d, op, ty, pos, af, gd⟩ ⟨fr, H⟩ f ⟨t, []⟩)
  (h : Ac E N P ops r ((f, ⟨t, []⟩) :: acc) ⟨(d, t) :: fr, H⟩ K) : Ac E N P ops (⟨some d, op, ty, pos, af, gd⟩ :: r) acc ⟨fr, H⟩ K := ⟨f, ⟨t, []⟩, .inl ⟨hw, hop⟩, h⟩
theorem Qr6 {b1 : Qw × Option Bk} (hw : wn ops ⟨some d, op, ty, pos, af, gd⟩ ⟨fr, H⟩ = some true) (hop : ZC E N P ops ⟨some d, op, ty, pos, af, gd⟩ ⟨fr, H⟩ f ⟨t, [b1]⟩)
  (h : Ac E N P ops r ((f, ⟨t, [b1]⟩) :: acc) ⟨(d, t) :: fr, b1 :: H⟩ K) : Ac E N P ops (⟨some d, op, ty, pos, af, gd⟩ :: r) acc ⟨fr, H⟩ K := ⟨f, ⟨t, [b1]⟩, .inl ⟨hw, hop⟩, h⟩
theorem Qil (hw : wn ops ⟨some d, op, ty, pos, af, gd⟩ ⟨fr, H⟩ = some false)
  (h : Ac E N P ops r ((⟨[], []⟩, ⟨.tup [], []⟩) :: acc) ⟨(d, .tup []) :: fr, H⟩ K) : Ac E N P ops (⟨some d, op, ty, pos, af, gd⟩ :: r) acc ⟨fr, H⟩ K := ⟨_, _, .inr ⟨hw, trivial, rfl⟩, h⟩
theorem Q5l {x : Operand} {t : TV} (hc : Zf x = true) (hx : st.ev x = t) : ZC E N P ops ⟨some d, .move x, ty, pos, af, gd⟩ st ⟨[], []⟩ ⟨t, []⟩ :=
 Z8 fun st' cx a w ha hr => ⟨a.eval x, rfl, by rw [← hx, ← JK ha (x := x) (by simp [Op.operands])]; exact hr.ev hc⟩
theorem Q9k {x : Operand} {t : TV} (hc : Zf x = true) (hx : st.ev x = t) : ZC E N P ops ⟨some d, .assign x, ty, pos, af, gd⟩ st ⟨[], []⟩ ⟨t, []⟩ :=
 Z8 fun st' cx a w ha hr => ⟨a.eval x, rfl, by rw [← hx, ← JK ha (x := x) (by simp [Op.operands])]; exact hr.ev hc⟩
theorem Gh {x : Operand} {y : Value} {f : Fp} {st' : St} {cx : Cx} {a : Act} {w : World} (hx : st.ev x = .c (.p (.v y))) (hc : Zf x = true) (ha : Agree ops o f st st') (hm : x ∈ o.op.operands.toList) (hr : Xx E N cx st' a w) :
  a.eval x = y ∧ Jm y = true := by
 have := hr.ev hc
 rw [JK ha hm, hx] at this
 have h2 := this.2
 revert h2
 generalize a.eval x = z
 intro h2
 cases h2 with | v _ h => exact ⟨rfl, h⟩
theorem Pt {x : Operand} {y : CV} {f : Fp} {st' : St} {cx : Cx} {a : Act} {w : World} (hx : st.ev x = .c y) (hc : Zf x = true) (ha : Agree ops o f st st') (hm : x ∈ o.op.operands.toList) (hr : Xx E N cx st' a w) :
  (y = .any ∨ (a.eval x).oneCell' = true) ∧ RC cx w st'.h y (a.eval x) := by
 have := hr.ev hc
 rw [JK ha hm, hx] at this
 exact this
theorem Mq {c x y : Operand} {b : Bool} {t : TV} (hb : Zf c = true) (h1 : Zf x = true) (h2 : Zf y = true) (hv : st.ev c = .c (.p (.v (.bool b)))) (hx : (if b then st.ev x else st.ev y) = t) :
  ZC E N P ops ⟨some d, .pick c x y, ty, pos, af, gd⟩ st ⟨[], []⟩ ⟨t, []⟩ :=
 Z8 fun st' cx a w ha hr => by
  have hc := (Gh hv hb ha (by simp [Op.operands]) hr).1
  refine ⟨if b then a.eval x else a.eval y, ?_, ?_⟩
  ·simp only [execOp, hc, Sem.run_bind, asBool, Sem.run_pure, Result.andThen_ok]
  ·rw [← hx]
   cases b
   ·have := hr.ev h2; rw [JK ha (x := y) (by simp [Op.operands])] at this; exact this
   ·have := hr.ev h1; rw [JK ha (x := x) (by simp [Op.operands])] at this; exact this
theorem Q11 {x : Operand} {b : Qw} {i k : Nat} (hx : st.ev x = .c (.ptr b i k) := by exact rfl) (hl : (st.h b).isSome = true := by exact rfl) (hc : Zf x = true := by exact rfl) : ZC E N P ops ⟨some d, .nilCheck x, ty, pos, af, gd⟩ st ⟨[b], []⟩ ⟨.c (.ptr b i k), []⟩ :=
 Z8 fun st' cx a w ha hr => by
  have h := Pt hx hc ha (by simp [Op.operands]) hr
  obtain ⟨bk, hb⟩ := Option.isSome_iff_exists.1 hl
  obtain ⟨g, q, h1, h2⟩ := h.2 bk (by rw [ha.2 b (by simp)]; exact hb)
  refine ⟨a.eval x, ?_, h⟩
  rw [h2]
  simp [execOp, h2, Sem.run_pure]
def Mr : BinOp → IntKind → Int → Int → Option Value
 | .add, k, a, b => some (.int k (k.wrap (a + b)))
 | .sub, k, a, b => some (.int k (k.wrap (a - b)))
 | .mul, k, a, b => some (.int k (k.wrap (a * b)))
 | .quo, k, a, b => if b = 0 then none else some (.int k (k.wrap (a.tdiv b)))
 | .rem, k, a, b => if b = 0 then none else some (.int k (a.tmod b))
 | .and, k, a, b => some (.int k (k.wrap (BitVec.ofInt k.bits a &&& BitVec.ofInt k.bits b).toNat))
 | .or, k, a, b => some (.int k (k.wrap (BitVec.ofInt k.bits a ||| BitVec.ofInt k.bits b).toNat))
 | .xor, k, a, b => some (.int k (k.wrap (BitVec.ofInt k.bits a ^^^ BitVec.ofInt k.bits b).toNat))
 | .andNot, k, a, b => some (.int k (k.wrap (BitVec.ofInt k.bits a &&& ~~~ BitVec.ofInt k.bits b).toNat))
 | .eql, _, a, b => some (.bool (a == b))
 | .neq, _, a, b => some (.bool (a != b))
 | .lss, _, a, b => some (.bool (decide (a < b)))
 | .leq, _, a, b => some (.bool (decide (a ≤ b)))
 | .gtr, _, a, b => some (.bool (decide (a > b)))
 | .geq, _, a, b => some (.bool (decide (a ≥ b)))
 | _, _, _, _ => none
theorem Qr7 {k : IntKind} {a b : Int} (h : (Lit.int k a).wf = true) : (Lit.int k (a.tmod b)).wf = true := by
 have h2 : (a.tmod b).natAbs ≤ a.natAbs := by rw [Int.natAbs_tmod]; exact Nat.mod_le _ _
 have h3 : 0 ≤ a → 0 ≤ a.tmod b := fun h => Int.tmod_nonneg b h
 have h4 : a ≤ 0 → a.tmod b ≤ 0 := fun h => by
  have := Int.tmod_nonneg b (show 0 ≤ -a by omega)
  rw [Int.neg_tmod] at this
  omega
 simp only [Lit.wf, Bool.and_eq_true, decide_eq_true_eq] at h ⊢
 have h5 : k.min ≤ 0 := by cases k <;> decide
 have h6 : 0 ≤ k.max := by cases k <;> decide
 omega
theorem Qr8 {op : BinOp} {k : IntKind} {a b : Int} {y : Value} {xt : TypeId} (h : Mr op k a b = some y) (w : World) : (binOp op xt (.int k a) (.int k b)).run P w = .ok y w := by
 cases op <;> simp only [Mr, Option.some.injEq, reduceCtorEq] at h <;> (try (split at h <;> simp only [Option.some.injEq, reduceCtorEq] at h)) <;> subst h <;>
  simp [binOp, Op.intArith, Op.intDiv, Op.intBits, Op.intCmp, Sem.run_pure, *]
theorem F3 {op : BinOp} {xt : TypeId} {x y : Operand} {a b : Value} (ha : ∀ cs, a ≠ .agg cs) (hb : a ≠ .nilIface) (w : World) : (eqGuard op xt x y a b).run P w = .ok () w := by
 unfold eqGuard
 cases op <;> simp [Sem.run_pure] <;> cases a <;> simp_all [Sem.run_pure] <;> cases b <;> simp [Sem.run_pure]
theorem F4 {op : BinOp} {xt : TypeId} {x y : Operand} (k : IntKind) (n : Int) (b : Value) (w : World) : (eqGuard op xt x y (.int k n) b).run P w = .ok () w := F3 (fun cs => by simp) (by simp) w
theorem L6 {op : BinOp} {xt : TypeId} {x y : Operand} (s : ByteArray) (b : Value) (w : World) : (eqGuard op xt x y (.string s) b).run P w = .ok () w := F3 (fun cs => by simp) (by simp) w
theorem HH {op : BinOp} {xt : TypeId} {x y : Operand} (s : Bool) (b : Value) (w : World) : (eqGuard op xt x y (.bool s) b).run P w = .ok () w := F3 (fun cs => by simp) (by simp) w
theorem P7 {bop : BinOp} {xt yt : TypeId} {x y : Operand} {k : IntKind} {a b : Int} {z : Value} (h1 : st.ev x = .c (.p (.v (.int k a))) := by exact rfl) (h2 : st.ev y = .c (.p (.v (.int k b))) := by exact rfl) (hz : Mr bop k a b = some z := by exact rfl) (hx : Zf x = true := by exact rfl) (hy : Zf y = true := by exact rfl) :
  ZC E N P ops ⟨some d, .binOp bop xt x y yt, ty, pos, af, gd⟩ st ⟨[], []⟩ ⟨.c (.p (.v z)), []⟩ :=
 Z8 fun st' cx a' w ha hr => by
  obtain ⟨e1, w1⟩ := Gh h1 hx ha (by simp [Op.operands]) hr
  obtain ⟨e2, w2⟩ := Gh h2 hy ha (by simp [Op.operands]) hr
  have hwf : Jm z = true := by
   cases bop <;> simp only [Mr, Option.some.injEq, reduceCtorEq] at hz <;> (try (split at hz <;> simp only [Option.some.injEq, reduceCtorEq] at hz)) <;> subst hz <;>
    first | exact wf_wrap _ _ | rfl | exact Qr7 w1
  refine ⟨z, ?_, .inr (V3 hwf), .v _ hwf⟩
  simp only [execOp, e1, e2, Sem.run_bind, F4, Result.andThen_ok, Qr8 hz, Sem.run_pure]
theorem A1 {bop : BinOp} {xt yt : TypeId} {x y : Operand} {k : IntKind} {a b : Int} {c : Bool} (h1 : st.ev x = .c (.p (.v (.int k a))) := by exact rfl) (h2 : st.ev y = .c (.p (.v (.int k b))) := by exact rfl) (hz : Mr bop k a b = some (.bool c) := by exact rfl) (hx : Zf x = true := by exact rfl) (hy : Zf y = true := by exact rfl) :
  ZC E N P ops ⟨some d, .binOp bop xt x y yt, ty, pos, af, gd⟩ st ⟨[], []⟩ ⟨.c (.p (.v (.bool c))), []⟩ := P7 h1 h2 hz hx hy
theorem Qr9 {k : IntKind} {a : Int} {n : Nat} (h : (Lit.int k a).wf = true) : (Lit.int k (a.fdiv (2 ^ n))).wf = true := by
 have hp : (0 : Int) < 2 ^ n := by have := Nat.two_pow_pos n; exact_mod_cast this
 simp only [Lit.wf, Bool.and_eq_true, decide_eq_true_eq] at h ⊢
 have h5 : k.min ≤ 0 := by cases k <;> decide
 have h6 : 0 ≤ k.max := by cases k <;> decide
 have e : a.fdiv (2 ^ n) = a / 2 ^ n := by rw [Int.fdiv_eq_ediv_of_nonneg _ (by omega)]
 rw [e]
 by_cases ha : 0 ≤ a
 ·have h1 := Int.ediv_nonneg ha (Int.le_of_lt hp)
  have h2 : a / 2 ^ n ≤ a := Int.ediv_le_self _ ha
  omega
 ·have h1 : a / 2 ^ n < 0 := Int.ediv_neg_of_neg_of_pos (by omega) hp
  have h2 : a ≤ a / 2 ^ n := by
   rw [Int.le_ediv_iff_mul_le hp]
   have : a * 2 ^ n ≤ a * 1 := Int.mul_le_mul_of_nonpos_left (by omega) (by omega)
   omega
  omega
theorem Qra {xt yt : TypeId} {x y : Operand} {k k' : IntKind} {a b n : Int} (h1 : st.ev x = .c (.p (.v (.int k a)))) (h2 : st.ev y = .c (.p (.v (.int k' b)))) (hb : 0 ≤ b) (hz : k.wrap (a * 2 ^ (min b.toNat k.bits)) = n) (hx : Zf x = true) (hy : Zf y = true) :
  ZC E N P ops ⟨some d, .binOp .shl xt x y yt, ty, pos, af, gd⟩ st ⟨[], []⟩ ⟨.c (.p (.v (.int k n))), []⟩ :=
 Z8 fun st' cx a' w ha hr => by
  obtain ⟨e1, w1⟩ := Gh h1 hx ha (by simp [Op.operands]) hr
  obtain ⟨e2, w2⟩ := Gh h2 hy ha (by simp [Op.operands]) hr
  have hwf : Jm (.int k n) = true := by rw [← hz]; exact wf_wrap _ _
  refine ⟨.int k n, ?_, .inr (V3 hwf), .v _ hwf⟩
  simp only [execOp, e1, e2, Sem.run_bind, F4, Result.andThen_ok, binOp, Op.shift, if_neg (show ¬ b < 0 by omega), Sem.run_pure, hz]
theorem Qrb {xt yt : TypeId} {x y : Operand} {k k' : IntKind} {a b n : Int} (h1 : st.ev x = .c (.p (.v (.int k a)))) (h2 : st.ev y = .c (.p (.v (.int k' b)))) (hb : 0 ≤ b) (hz : a.fdiv (2 ^ (min b.toNat k.bits)) = n) (hx : Zf x = true) (hy : Zf y = true) :
  ZC E N P ops ⟨some d, .binOp .shr xt x y yt, ty, pos, af, gd⟩ st ⟨[], []⟩ ⟨.c (.p (.v (.int k n))), []⟩ :=
 Z8 fun st' cx a' w ha hr => by
  obtain ⟨e1, w1⟩ := Gh h1 hx ha (by simp [Op.operands]) hr
  obtain ⟨e2, w2⟩ := Gh h2 hy ha (by simp [Op.operands]) hr
  have hwf : Jm (.int k n) = true := by rw [← hz]; exact Qr9 w1
  refine ⟨.int k n, ?_, .inr (V3 hwf), .v _ hwf⟩
  simp only [execOp, e1, e2, Sem.run_bind, F4, Result.andThen_ok, binOp, Op.shift, if_neg (show ¬ b < 0 by omega), Sem.run_pure, hz]
theorem Vo {xt : TypeId} {x : Operand} {b c : Bool} (h1 : st.ev x = .c (.p (.v (.bool b))) := by exact rfl) (hz : (!b) = c := by exact rfl) (hx : Zf x = true := by exact rfl) : ZC E N P ops ⟨some d, .unOp .not xt x, ty, pos, af, gd⟩ st ⟨[], []⟩ ⟨.c (.p (.v (.bool c))), []⟩ :=
 Z8 fun st' cx a' w ha hr => by
  obtain ⟨e1, w1⟩ := Gh h1 hx ha (by simp [Op.operands]) hr
  refine ⟨.bool c, ?_, .inr rfl, .v _ rfl⟩
  rw [← hz]
  simp only [execOp, e1, Op.unary, Sem.run_bind, Sem.run_pure, Result.andThen_ok]
theorem Qrc {xt : TypeId} {x : Operand} {k : IntKind} {a n : Int} (h1 : st.ev x = .c (.p (.v (.int k a)))) (hz : k.wrap (0 - a) = n) (hx : Zf x = true) : ZC E N P ops ⟨some d, .unOp .neg xt x, ty, pos, af, gd⟩ st ⟨[], []⟩ ⟨.c (.p (.v (.int k n))), []⟩ :=
 Z8 fun st' cx a' w ha hr => by
  obtain ⟨e1, w1⟩ := Gh h1 hx ha (by simp [Op.operands]) hr
  have hwf : Jm (.int k n) = true := by rw [← hz]; exact wf_wrap _ _
  refine ⟨.int k n, ?_, .inr (V3 hwf), .v _ hwf⟩
  simp only [execOp, e1, Op.unary, Op.intArith, Sem.run_bind, Sem.run_pure, Result.andThen_ok, hz]
def Qim : BinOp → ByteArray → ByteArray → Option Bool
 | .eql, a, b => some (a.toList == b.toList)
 | .neq, a, b => some (!(a.toList == b.toList))
 | .lss, a, b => some (Op.bytesLess a.toList b.toList)
 | .leq, a, b => some (Op.bytesLess a.toList b.toList || a.toList == b.toList)
 | .gtr, a, b => some (!(Op.bytesLess a.toList b.toList || a.toList == b.toList))
 | .geq, a, b => some (!(Op.bytesLess a.toList b.toList))
 | _, _, _ => none
theorem Q12 {bop : BinOp} {xt yt : TypeId} {x y : Operand} {a b : ByteArray} {c : Bool} (h1 : st.ev x = .c (.p (.v (.string a))) := by exact rfl) (h2 : st.ev y = .c (.p (.v (.string b))) := by exact rfl) (hz : Qim bop a b = some c := by exact rfl) (hx : Zf x = true := by exact rfl) (hy : Zf y = true := by exact rfl) :
  ZC E N P ops ⟨some d, .binOp bop xt x y yt, ty, pos, af, gd⟩ st ⟨[], []⟩ ⟨.c (.p (.v (.bool c))), []⟩ :=
 Z8 fun st' cx a' w ha hr => by
  obtain ⟨e1, w1⟩ := Gh h1 hx ha (by simp [Op.operands]) hr
  obtain ⟨e2, w2⟩ := Gh h2 hy ha (by simp [Op.operands]) hr
  refine ⟨.bool c, ?_, .inr rfl, .v _ rfl⟩
  have : (binOp bop xt (.string a) (.string b)).run P w = .ok (.bool c) w := by
   cases bop <;> simp only [Qim, Option.some.injEq, reduceCtorEq] at hz <;> subst hz <;> simp [binOp, Op.stringOp, Sem.run_pure]
  simp only [execOp, e1, e2, Sem.run_bind, L6, Result.andThen_ok, this, Sem.run_pure]
theorem Q13 {xt yt : TypeId} {x y : Operand} {a b : ByteArray} (h1 : st.ev x = .c (.p (.v (.string a)))) (h2 : st.ev y = .c (.p (.v (.string b)))) (hz : a.size + b.size ≤ maxLen) (hx : Zf x = true) (hy : Zf y = true) :
  ZC E N P ops ⟨some d, .binOp .add xt x y yt, ty, pos, af, gd⟩ st ⟨[], []⟩ ⟨.c (.p (.v (.string (a ++ b)))), []⟩ :=
 Z8 fun st' cx a' w ha hr => by
  obtain ⟨e1, w1⟩ := Gh h1 hx ha (by simp [Op.operands]) hr
  obtain ⟨e2, w2⟩ := Gh h2 hy ha (by simp [Op.operands]) hr
  have hwf : Jm (.string (a ++ b)) = true := by simp [Jm, ByteArray.size_append]; exact hz
  refine ⟨.string (a ++ b), ?_, .inr (V3 hwf), .v _ hwf⟩
  have hi : IntKind.i64.max = 9223372036854775807 := rfl
  have hn : ¬ ((a.size + b.size : Nat) : Int) > IntKind.i64.max := by rw [hi]; unfold maxLen at hz; omega
  simp only [execOp, e1, e2, Sem.run_bind, L6, Result.andThen_ok, binOp, Op.stringOp, if_neg hn, Sem.run_pure]
theorem Qin [T : Tb P] {T : Tb P} {s t : TypeId} {x : Operand} {k k' : IntKind} {a n : Int} {te ts : TE} (h1 : st.ev x = .c (.p (.v (.int k a))) := by exact rfl) (hs : Zn T.ty s = some ts := by exact rfl) (ht : Zn T.ty t = some te := by exact rfl) (hk : te.kd = .int k' := by exact rfl) (hz : k'.wrap a = n := by exact rfl) (hx : Zf x = true := by exact rfl) :
  ZC E N P ops ⟨some d, .convert s t x, ty, pos, af, gd⟩ st ⟨[], []⟩ ⟨.c (.p (.v (.int k' n))), []⟩ :=
 Z8 fun st' cx a' w ha hr => by
  obtain ⟨e1, w1⟩ := Gh h1 hx ha (by simp [Op.operands]) hr
  have hwf : Jm (.int k' n) = true := by rw [← hz]; exact wf_wrap _ _
  refine ⟨.int k' n, ?_, .inr (V3 hwf), .v _ hwf⟩
  obtain ⟨ds, is, hds, _⟩ := YI (T.ok _ _ hs)
  obtain ⟨dt, it, hdt, _, hkd, _⟩ := YI (T.ok _ _ ht)
  have hd : dt = .int k' := by rw [hk] at hkd; cases dt <;> simp_all [Oj]
  subst hd
  simp only [execOp, e1, Sem.run_bind, convert, Uu hds, Uu hdt, Result.andThen_ok, Conv.intToInt, Sem.run_pure, hz]
theorem O5 {x : Operand} {ts : List TV} {i : Nat} {t : TV} (h1 : st.ev x = .tup ts) (hi : ts[i]? = some t) (ht : ∀ us, t ≠ .tup us) (hx : Zf x = true) : ZC E N P ops ⟨some d, .extract x i, ty, pos, af, gd⟩ st ⟨[], []⟩ ⟨t, []⟩ :=
 Z8 fun st' cx a' w ha hr => by
  have hrt := hr.ev hx
  rw [JK ha (x := x) (by simp [Op.operands]), h1] at hrt
  obtain ⟨vs, e1, e2, e3⟩ := hrt
  obtain ⟨u, hu, hr1⟩ := e3 i t hi
  refine ⟨u, ?_, ?_⟩
  ·simp only [execOp, e1, Sem.run_bind, Instr.extract, hu, Sem.run_pure, Result.andThen_ok]
  ·cases t with
   | c x => exact hr1
   | agg cs => exact hr1
   | tup us => exact absurd rfl (ht us)
end
section
variable {E : En} {N : Nat} {P : Program} {T : Tb P} {ops : Array Oper} {o : Oper} {st : St} {d : Nat} {ty : Nat} {pos : String} {af : Array Edge} {gd : Option (Nat × Bool)}
def Pu (E : En) (N : Nat) (ops : Array Oper) (o : Oper) (st : St) (rb : List Qw) (x : Operand) (cs : List CV) : Prop :=
 ∀ st' cx a w, Agree ops o ⟨rb, []⟩ st st' → Xx E N cx st' a w → ∃ g q, a.eval x = .pointer (some ⟨g, q, none⟩) ∧ ∀ (j : Nat) (c : CV), cs[j]? = some c → ∃ u, w.cell? ⟨g, q + j, none⟩ = some u ∧ u.oneCell' = true ∧ RC cx w st'.h c u
theorem Nj {x : Operand} {t : TypeId} {te : TE} {c : CV} {rb : List Qw} (ht : Zn T.ty t = some te) (hk : te.kd.agg = false) (h : Pu E N ops ⟨some d, .load t x, ty, pos, af, gd⟩ st rb x [c]) : ZC E N P ops ⟨some d, .load t x, ty, pos, af, gd⟩ st ⟨rb, []⟩ ⟨.c c, []⟩ :=
 Z8 fun st' cx a w ha hr => by
  obtain ⟨g, q, h1, h2⟩ := h st' cx a w ha hr
  obtain ⟨u, h3, h4, h5⟩ := h2 0 c rfl
  have h3' : w.cell? ⟨g, q, none⟩ = some u := by simpa using h3
  refine ⟨u, ?_, .inr h4, h5⟩
  simp only [execOp, h1, Sem.run_bind, Instr.loadAt, Instr.sureAddr, Sem.run_pure, Result.andThen_ok, FV (T.ok _ _ ht) hk h3']
theorem Pv {x : Operand} {t : TypeId} {te : TE} {cs : List CV} {rb : List Qw} (ht : Zn T.ty t = some te) (hk : te.kd.agg = true) (hl : cs.length = te.size) (h : Pu E N ops ⟨some d, .load t x, ty, pos, af, gd⟩ st rb x cs) : ZC E N P ops ⟨some d, .load t x, ty, pos, af, gd⟩ st ⟨rb, []⟩ ⟨.agg cs, []⟩ :=
 Z8 fun st' cx a w ha hr => by
  obtain ⟨g, q, h1, h2⟩ := h st' cx a w ha hr
  -- the values
  have hex : ∃ us : List Value, us.length = cs.length ∧ ∀ (j : Nat) (c : CV), cs[j]? = some c → ∃ u, us[j]? = some u ∧ w.cell? ⟨g, q + j, none⟩ = some u ∧ u.oneCell' = true ∧ RC cx w st'.h c u := by
   refine ⟨(List.range cs.length).map fun j => (w.cell? ⟨g, q + j, none⟩).getD undef, by simp, fun j c hj => ?_⟩
   obtain ⟨u, h3, h4, h5⟩ := h2 j c hj
   have hlt := (List.getElem?_eq_some_iff.1 hj).1
   refine ⟨u, ?_, h3, h4, h5⟩
   rw [List.getElem?_map, List.getElem?_range hlt]
   simp [h3]
  obtain ⟨us, hul, hus⟩ := hex
  refine ⟨.agg us.toArray, ?_, us.toArray, rfl, by simp [hul], fun i c hi => ?_⟩
  ·have hcell : ∀ (j : Nat) (u : Value), us[j]? = some u → w.cell? ((⟨g, q, none⟩ : Addr).add j) = some u := by
    intro j u hj
    have hlt := (List.getElem?_eq_some_iff.1 hj).1
    obtain ⟨u', h3, h4, _⟩ := hus j cs[j] (List.getElem?_eq_getElem (by omega))
    rw [hj] at h3
    cases h3
    rw [addr_add]; exact h4
   simp only [execOp, h1, Sem.run_bind, Instr.loadAt, Instr.sureAddr, Sem.run_pure, Result.andThen_ok, H7 (T.ok _ _ ht) hk (by rw [← hl, hul]) hcell]
  ·obtain ⟨u, h3, h4, h5, h6⟩ := hus i c hi
   exact ⟨u, by simpa using h3, h5, h6⟩
theorem Qcn {x : Operand} {b : Qw} {k : Nat} {all cs : List CV} (hm : x ∈ o.op.operands.toList) (hc : Zf x = true) (h1 : st.ev x = .c (.ptr b 0 k)) {f : Option Frm} (h2 : st.h b = some (.box all f)) (h3 : ∀ (j : Nat) (c : CV), cs[j]? = some c → all[k + j]? = some c) : Pu E N ops o st [b] x cs := by
 intro st' cx a w ha hr
 have hb : st'.h b = some (.box all f) := by rw [ha.2 b (by simp)]; exact h2
 have hrb := hr.bl b _ hb
 obtain ⟨-, h4⟩ := Pt h1 hc ha hm hr
 obtain ⟨g, q, h5, h6⟩ := h4 _ hb
 obtain ⟨g', q', c, el, h7, h8, h9, h10, h11, -⟩ := hrb
 rw [h5] at h7
 cases h7
 refine ⟨g, q + k, by simpa [Bk.e] using h6, fun j cv hj => ?_⟩
 obtain ⟨u, hu, h12, h13⟩ := h11 (k + j) cv (h3 j cv hj)
 refine ⟨u, ?_, h12, h13⟩
 rw [World.cell?, h8]
 simpa [Nat.add_assoc] using hu
theorem Qco {x : Operand} {b : Qw} {i k e : Nat} {rows : List (List PV)} {mu : Bool} {r : List PV} {cs : List CV} (hm : x ∈ o.op.operands.toList) (hc : Zf x = true) (h1 : st.ev x = .c (.ptr b i k)) (h2 : st.h b = some (.row e rows mu)) (hi : rows[i]? = some r)
  (h3 : ∀ (j : Nat) (c : CV), cs[j]? = some c → ∃ p, r[k + j]? = some p ∧ c = .p p) : Pu E N ops o st [b] x cs := by
 intro st' cx a w ha hr
 have hb : st'.h b = some (.row e rows mu) := by rw [ha.2 b (by simp)]; exact h2
 have hrb := hr.bl b _ hb
 obtain ⟨-, h4⟩ := Pt h1 hc ha hm hr
 obtain ⟨g, q, h5, h6⟩ := h4 _ hb
 obtain ⟨h7, h8, h9⟩ := hrb
 rw [h5] at h9
 obtain ⟨rfl, c, el, fz, capR, h10, h11, h12, h13, h14, h15, h16⟩ := h9
 refine ⟨g, 0 + i * e + k, by simpa [Bk.e] using h6, fun j cv hj => ?_⟩
 obtain ⟨p, hp, rfl⟩ := h3 j cv hj
 obtain ⟨u, hu, h17⟩ := h16 i r (k + j) p hi hp
 refine ⟨u, ?_, h17.one, h17⟩
 rw [World.cell?, h10]
 simpa [Nat.add_assoc] using hu
theorem Qio {x : Operand} {k : Nat} {r : List PV} {cs : List CV} (hm : x ∈ o.op.operands.toList) (hc : Zf x = true) (h1 : st.ev x = .c (.ep r k)) (h3 : ∀ (j : Nat) (c : CV), cs[j]? = some c → ∃ p, r[k + j]? = some p ∧ c = .p p) : Pu E N ops o st [] x cs := by
 intro st' cx a w ha hr
 obtain ⟨-, g, off, h5, h6, h7, h8⟩ := Pt h1 hc ha hm hr
 refine ⟨g, off + k, h5, fun j cv hj => ?_⟩
 obtain ⟨p, hp, rfl⟩ := h3 j cv hj
 obtain ⟨u, hu, h9⟩ := h8 (k + j) p hp
 exact ⟨u, by rw [Nat.add_assoc]; exact hu, h9.one, h9⟩
theorem Q9l {α : Type} {c : α} {Q : Nat → α → Prop} (h : Q 0 c) : ∀ (j : Nat) (c' : α), [c][j]? = some c' → Q j c' := by
 intro j c' hj
 cases j with
 | zero => simp at hj; subst hj; exact h
 | succ j => simp at hj
theorem QB [T : Tb P] {x : Operand} {b : Qw} {k : Nat} {all : List CV} {fm : Option Frm} {c : CV} {t : TypeId} {te : TE} (h1 : st.ev x = .c (.ptr b 0 k) := by exact rfl) (h2 : st.h b = some (.box all fm) := by exact rfl) (h3 : all[k]? = some c := by exact rfl) (ht : Zn T.ty t = some te := by exact rfl) (hk : te.kd.agg = false := by exact rfl) (hc : Zf x = true := by exact rfl) :
  ZC E N P ops ⟨some d, .load t x, ty, pos, af, gd⟩ st ⟨[b], []⟩ ⟨.c c, []⟩ := Nj ht hk (Qcn (by simp [Op.operands]) hc h1 h2 (Q9l h3))
theorem Ca [T : Tb P] {x : Operand} {b : Qw} {k : Nat} {all cs : List CV} {fm : Option Frm} {t : TypeId} {te : TE} (h1 : st.ev x = .c (.ptr b 0 k) := by exact rfl) (h2 : st.h b = some (.box all fm) := by exact rfl) (ht : Zn T.ty t = some te := by exact rfl) (hk : te.kd.agg = true := by exact rfl) (h3 : (all.drop k).take te.size = cs := by exact rfl) (hl : cs.length = te.size := by exact rfl) (hc : Zf x = true := by exact rfl) :
  ZC E N P ops ⟨some d, .load t x, ty, pos, af, gd⟩ st ⟨[b], []⟩ ⟨.agg cs, []⟩ :=
 Pv ht hk hl (Qcn (by simp [Op.operands]) hc h1 h2 (by
  intro j c hj
  rw [← h3, List.getElem?_take] at hj
  split at hj
  ·rw [List.getElem?_drop] at hj; exact hj
  ·cases hj))
theorem Gi [T : Tb P] {x : Operand} {b : Qw} {i k e : Nat} {rows : List (List PV)} {mu : Bool} {r : List PV} {p : PV} {t : TypeId} {te : TE} (h1 : st.ev x = .c (.ptr b i k) := by exact rfl) (h2 : st.h b = some (.row e rows mu) := by exact rfl) (hi : rows[i]? = some r := by exact rfl) (h3 : r[k]? = some p := by exact rfl) (ht : Zn T.ty t = some te := by exact rfl) (hk : te.kd.agg = false := by exact rfl) (hc : Zf x = true := by exact rfl) :
  ZC E N P ops ⟨some d, .load t x, ty, pos, af, gd⟩ st ⟨[b], []⟩ ⟨.c (.p p), []⟩ := Nj ht hk (Qco (by simp [Op.operands]) hc h1 h2 hi (Q9l ⟨p, h3, rfl⟩))
theorem Qip {r ps : List PV} {k n : Nat} {cs : List CV} (h3 : (r.drop k).take n = ps) (h4 : ps.map .p = cs) : ∀ (j : Nat) (c : CV), cs[j]? = some c → ∃ p, r[k + j]? = some p ∧ c = .p p := by
 intro j c hj
 rw [← h4, List.getElem?_map] at hj
 cases hp : ps[j]? with
 | none => rw [hp] at hj; cases hj
 | some p =>
  rw [hp] at hj
  simp only [Option.map_some, Option.some.injEq] at hj
  rw [← h3, List.getElem?_take] at hp
  split at hp
  ·rw [List.getElem?_drop] at hp; exact ⟨p, hp, hj.symm⟩
  ·cases hp
theorem F5 [T : Tb P] {x : Operand} {b : Qw} {i k e : Nat} {rows : List (List PV)} {mu : Bool} {r ps : List PV} {cs : List CV} {t : TypeId} {te : TE} (h1 : st.ev x = .c (.ptr b i k) := by exact rfl) (h2 : st.h b = some (.row e rows mu) := by exact rfl) (hi : rows[i]? = some r := by exact rfl) (ht : Zn T.ty t = some te := by exact rfl) (hk : te.kd.agg = true := by exact rfl) (h3 : (r.drop k).take te.size = ps := by exact rfl) (h4 : ps.map .p = cs := by exact rfl) (hl : cs.length = te.size := by exact rfl) (hc : Zf x = true := by exact rfl) :
  ZC E N P ops ⟨some d, .load t x, ty, pos, af, gd⟩ st ⟨[b], []⟩ ⟨.agg cs, []⟩ := Pv ht hk hl (Qco (by simp [Op.operands]) hc h1 h2 hi (Qip h3 h4))
theorem Q5m [T : Tb P] {x : Operand} {k : Nat} {r : List PV} {p : PV} {t : TypeId} {te : TE} (h1 : st.ev x = .c (.ep r k) := by exact rfl) (h3 : r[k]? = some p := by exact rfl) (ht : Zn T.ty t = some te := by exact rfl) (hk : te.kd.agg = false := by exact rfl) (hc : Zf x = true := by exact rfl) :
  ZC E N P ops ⟨some d, .load t x, ty, pos, af, gd⟩ st ⟨[], []⟩ ⟨.c (.p p), []⟩ := Nj ht hk (Qio (by simp [Op.operands]) hc h1 (Q9l ⟨p, h3, rfl⟩))
theorem Ms [T : Tb P] {x : Operand} {k : Nat} {r ps : List PV} {cs : List CV} {t : TypeId} {te : TE} (h1 : st.ev x = .c (.ep r k) := by exact rfl) (ht : Zn T.ty t = some te := by exact rfl) (hk : te.kd.agg = true := by exact rfl) (h3 : (r.drop k).take te.size = ps := by exact rfl) (h4 : ps.map .p = cs := by exact rfl) (hl : cs.length = te.size := by exact rfl) (hc : Zf x = true := by exact rfl) :
  ZC E N P ops ⟨some d, .load t x, ty, pos, af, gd⟩ st ⟨[], []⟩ ⟨.agg cs, []⟩ := Pv ht hk hl (Qio (by simp [Op.operands]) hc h1 (Qip h3 h4))
theorem Q07 {s : TypeId} {ts : TE} {fs : List (Nat × Nat)} (hs : Zn T.ty s = some ts) (hk : ts.kd = .struct fs) : ∃ F : Array Field, P.underlying s = some (.struct F) ∧ F.toList.map (fun f => (f.offset, f.type)) = fs := by
 obtain ⟨dd, i, h1, _, h2, _⟩ := YI (T.ok _ _ hs)
 rw [hk] at h2
 cases dd <;> simp_all [Oj]
theorem KN {s e : TypeId} {ts : TE} (hs : Zn T.ty s = some ts) (hk : ts.kd = .slice e) : P.underlying s = some (.slice e) := by
 obtain ⟨dd, i, h1, _, h2, _⟩ := YI (T.ok _ _ hs)
 rw [hk] at h2
 cases dd <;> simp_all [Oj]
theorem Q5n {s e : TypeId} {n : Nat} {ts : TE} (hs : Zn T.ty s = some ts) (hk : ts.kd = .array n e) : P.underlying s = some (.array n e) := by
 obtain ⟨dd, i, h1, _, h2, _⟩ := YI (T.ok _ _ hs)
 rw [hk] at h2
 cases dd <;> simp_all [Oj]
theorem BO {s : TypeId} {ts : TE} (hs : Zn T.ty s = some ts) (hk : ts.kd = .string) : P.underlying s = some .string := by
 obtain ⟨dd, i, h1, _, h2, _⟩ := YI (T.ok _ _ hs)
 rw [hk] at h2
 cases dd <;> simp_all [Oj]
theorem Qiq {s : TypeId} {k : IntKind} {ts : TE} (hs : Zn T.ty s = some ts) (hk : ts.kd = .int k) : P.underlying s = some (.int k) := by
 obtain ⟨dd, i, h1, _, h2, _⟩ := YI (T.ok _ _ hs)
 rw [hk] at h2
 cases dd <;> simp_all [Oj]
theorem Q08 {s : TypeId} {ts tf : TE} {fs : List (Nat × Nat)} {f off ft g q : Nat} {w : World} (hs : Zn T.ty s = some ts) (hk : ts.kd = .struct fs) (hf : fs[f]? = some (off, ft)) (hft : Zn T.ty ft = some tf) (hz : tf.size ≠ 0) :
  (Instr.fieldAt s (.pointer (some ⟨g, q, none⟩)) f).run P w = .ok (.pointer (some ⟨g, q + off, none⟩)) w := by
 obtain ⟨F, h1, h2⟩ := Q07 hs hk
 rw [← h2, List.getElem?_map] at hf
 cases hF : F.toList[f]? with
 | none => rw [hF] at hf; cases hf
 | some fl =>
  rw [hF] at hf
  simp only [Option.map_some, Option.some.injEq, Prod.mk.injEq] at hf
  obtain ⟨h3, h4⟩ := hf
  have h5 : F[f]? = some fl := by simpa using hF
  have h6 : (sizeOf fl.type).run P w = .ok tf.size w := by rw [h4]; exact Uv (T.ok _ _ hft) w
  simp only [Instr.fieldAt, Sem.run_bind, Uu h1, Result.andThen_ok, h5, Instr.sureAddr, Sem.run_pure, fieldPlace, h6, if_neg hz, addr_add, h3]
theorem Sx {x : Operand} {b : Qw} {i k k' f off ft s : Nat} {ts tf : TE} {fs : List (Nat × Nat)} (h1 : st.ev x = .c (.ptr b i k)) (hb : (st.h b).isSome = true) (hs : Zn T.ty s = some ts) (hk : ts.kd = .struct fs) (hf : fs[f]? = some (off, ft)) (hft : Zn T.ty ft = some tf) (hz : tf.size ≠ 0) (hkk : k + off = k') (hc : Zf x = true) :
  ZC E N P ops ⟨some d, .fieldAddr s x f, ty, pos, af, gd⟩ st ⟨[b], []⟩ ⟨.c (.ptr b i k'), []⟩ :=
 Z8 fun st' cx a w ha hr => by
  obtain ⟨-, h4⟩ := Pt h1 hc ha (by simp [Op.operands]) hr
  obtain ⟨bk, hbk⟩ := Option.isSome_iff_exists.1 hb
  have hb' : st'.h b = some bk := by rw [ha.2 b (by simp)]; exact hbk
  obtain ⟨g, q, h5, h6⟩ := h4 _ hb'
  refine ⟨.pointer (some ⟨g, q + i * bk.e + k', none⟩), ?_, .inr rfl, fun bk2 h7 => ?_⟩
  ·simp only [execOp, h6, Sem.run_bind, Q08 hs hk hf hft hz, Result.andThen_ok, Sem.run_pure, ← hkk, Nat.add_assoc]
  ·rw [hb'] at h7; cases h7
   exact ⟨g, q, h5, rfl⟩
theorem Q14 {x : Operand} {r : List PV} {k k' f off ft s : Nat} {ts tf : TE} {fs : List (Nat × Nat)} (h1 : st.ev x = .c (.ep r k)) (hs : Zn T.ty s = some ts) (hk : ts.kd = .struct fs) (hf : fs[f]? = some (off, ft)) (hft : Zn T.ty ft = some tf) (hz : tf.size ≠ 0) (hkk : k + off = k') (hc : Zf x = true) :
  ZC E N P ops ⟨some d, .fieldAddr s x f, ty, pos, af, gd⟩ st ⟨[], []⟩ ⟨.c (.ep r k'), []⟩ :=
 Z8 fun st' cx a w ha hr => by
  obtain ⟨-, g, q, h5, h6, h7, h8⟩ := Pt h1 hc ha (by simp [Op.operands]) hr
  refine ⟨.pointer (some ⟨g, q + k', none⟩), ?_, .inr rfl, g, q, rfl, h6, h7, h8⟩
  simp only [execOp, h5, Sem.run_bind, Q08 hs hk hf hft hz, Result.andThen_ok, Sem.run_pure, ← hkk, Nat.add_assoc]
theorem H8 {t e : TypeId} {tt te : TE} {g q len cap j : Nat} {k : IntKind} {w : World} (ht : Zn T.ty t = some tt) (hk : tt.kd = .slice e) (he : Zn T.ty e = some te) (hj : j < len) :
  (Instr.indexAt t (.slice (some ⟨g, q, none⟩) len cap) (.int k j)).run P w = .ok (.pointer (some ⟨g, q + j * te.size, none⟩)) w := by
 simp only [Instr.indexAt, Sem.run_bind, asIntOf, Sem.run_pure, Result.andThen_ok, Uu (KN ht hk), Uv (T.ok _ _ he)]
 rw [if_pos (by omega)]
 simp only [Sem.run_bind, Sem.run_pure, Result.andThen_ok, Uv (T.ok _ _ he), Int.toNat_natCast, addr_add]
theorem Q5o {x y : Operand} {t el e : Nat} {rows : List (List PV)} {r : List PV} {k : IntKind} {n : Int} {j : Nat} {tt te : TE} (h1 : st.ev x = .c (.p (.l e rows))) (h2 : st.ev y = .c (.p (.v (.int k n)))) (hn : n = (j : Int)) (hj : rows[j]? = some r)
  (ht : Zn T.ty t = some tt) (hk : tt.kd = .slice el) (hel : Zn T.ty el = some te) (he : te.size = e) (hx : Zf x = true) (hy : Zf y = true) :
  ZC E N P ops ⟨some d, .indexAddr t x y, ty, pos, af, gd⟩ st ⟨[], []⟩ ⟨.c (.ep r 0), []⟩ :=
 Z8 fun st' cx a w ha hr => by
  obtain ⟨e2, w2⟩ := Gh h2 hy ha (by simp [Op.operands]) hr
  obtain ⟨-, h4⟩ := Pt h1 hx ha (by simp [Op.operands]) hr
  have hjl := (List.getElem?_eq_some_iff.1 hj).1
  revert h4
  generalize hz : a.eval x = z
  intro h4
  cases h4 with
  | l e rows a' cap c q1 q2 q3 q4 q5 =>
   rcases q4 with rfl | ⟨g, off, rfl, hg, hl, hcell⟩
   ·simp at hj
   ·refine ⟨.pointer (some ⟨g, off + j * e, none⟩), ?_, .inr rfl, g, off + j * e, rfl, hg, hl, fun m p hp => ⟨c j m, by rw [← hcell j r m p hj hp], q5 j r m p hj hp⟩⟩
    subst hn
    simp only [execOp, hz, e2, Sem.run_bind, H8 ht hk hel hjl, he, Result.andThen_ok, Sem.run_pure]
theorem Mt {x y : Operand} {t el e off m : Nat} {b : Qw} {rows : List (List PV)} {mu : Bool} {k : IntKind} {n : Int} {j i' : Nat} {tt te : TE} (h1 : st.ev x = .c (.sl b off m)) (hb : st.h b = some (.row e rows mu)) (h2 : st.ev y = .c (.p (.v (.int k n)))) (hn : n = (j : Int)) (hj : j < m)
  (ht : Zn T.ty t = some tt) (hk : tt.kd = .slice el) (hel : Zn T.ty el = some te) (he : te.size = e) (hi : off + j = i') (hx : Zf x = true) (hy : Zf y = true) :
  ZC E N P ops ⟨some d, .indexAddr t x y, ty, pos, af, gd⟩ st ⟨[b], []⟩ ⟨.c (.ptr b i' 0), []⟩ :=
 Z8 fun st' cx a w ha hr => by
  obtain ⟨e2, w2⟩ := Gh h2 hy ha (by simp [Op.operands]) hr
  obtain ⟨-, h4⟩ := Pt h1 hx ha (by simp [Op.operands]) hr
  have hb' : st'.h b = some (.row e rows mu) := by rw [ha.2 b (by simp)]; exact hb
  obtain ⟨a', cap, h5, h6, h7, h8, h9⟩ := h4 _ hb'
  rcases h9 with h9 | ⟨g, c, el', fz, h9, rfl, h11, h12⟩
  ·omega
  ·simp only [Bk.e] at h5 h12
   refine ⟨.pointer (some ⟨g, off * e + j * e, none⟩), ?_, .inr rfl, fun bk2 h13 => ?_⟩
   ·subst hn
    simp only [execOp, h5, e2, Sem.run_bind, H8 ht hk hel hj, he, Result.andThen_ok, Sem.run_pure]
   ·rw [hb'] at h13; cases h13
    refine ⟨g, 0, h9, ?_⟩
    simp only [Bk.e, ← hi, Nat.zero_add, Nat.add_zero, Nat.add_mul]
theorem QM [T : Tb P] {x y : Operand} {t el i q q' len : Nat} {b : Qw} {k : IntKind} {n : Int} {j : Nat} {tt te : TE} (h1 : st.ev x = .c (.ptr b i q) := by exact rfl) (hb : (st.h b).isSome = true := by exact rfl) (h2 : st.ev y = .c (.p (.v (.int k n))) := by exact rfl) (hn : n = (j : Int) := by exact rfl) (hj : j < len)
  (ht : Zn T.ty t = some tt := by exact rfl) (hk : tt.kd = .array len el := by exact rfl) (hel : Zn T.ty el = some te := by exact rfl) (hi : q + j * te.size = q' := by exact rfl) (hx : Zf x = true := by exact rfl) (hy : Zf y = true := by exact rfl) :
  ZC E N P ops ⟨some d, .indexAddr t x y, ty, pos, af, gd⟩ st ⟨[b], []⟩ ⟨.c (.ptr b i q'), []⟩ :=
 Z8 fun st' cx a w ha hr => by
  obtain ⟨e2, w2⟩ := Gh h2 hy ha (by simp [Op.operands]) hr
  obtain ⟨-, h4⟩ := Pt h1 hx ha (by simp [Op.operands]) hr
  obtain ⟨bk, hbk⟩ := Option.isSome_iff_exists.1 hb
  have hb' : st'.h b = some bk := by rw [ha.2 b (by simp)]; exact hbk
  obtain ⟨g, qq, h5, h6⟩ := h4 _ hb'
  refine ⟨.pointer (some ⟨g, qq + i * bk.e + q', none⟩), ?_, .inr rfl, fun bk2 h7 => ?_⟩
  ·subst hn
   simp only [execOp, h6, e2, Sem.run_bind, Instr.indexAt, asIntOf, Sem.run_pure, Result.andThen_ok, Uu (Q5n ht hk), Instr.sureAddr]
   rw [if_pos (by omega)]
   simp only [Sem.run_bind, Uv (T.ok _ _ hel), Result.andThen_ok, Sem.run_pure, addr_add, Int.toNat_natCast, ← hi, Nat.add_assoc]
  ·rw [hb'] at h7; cases h7
   exact ⟨g, qq, h5, rfl⟩
theorem Sy {x y : Operand} {t : Nat} {s : ByteArray} {k : IntKind} {n : Int} {j : Nat} {b : UInt8} {tt : TE} (h1 : st.ev x = .c (.p (.v (.string s)))) (h2 : st.ev y = .c (.p (.v (.int k n)))) (hn : n = (j : Int)) (hj : s[j]? = some b)
  (ht : Zn T.ty t = some tt) (hk : tt.kd = .string) (hx : Zf x = true) (hy : Zf y = true) : ZC E N P ops ⟨some d, .index t x y, ty, pos, af, gd⟩ st ⟨[], []⟩ ⟨.c (.p (.v (.int .u8 b.toNat))), []⟩ :=
 Z8 fun st' cx a w ha hr => by
  obtain ⟨e2, w2⟩ := Gh h2 hy ha (by simp [Op.operands]) hr
  obtain ⟨e1, w1⟩ := Gh h1 hx ha (by simp [Op.operands]) hr
  have hwf : Jm (.int .u8 b.toNat) = true := by
   have := b.toNat_lt
   simp [Jm, Lit.wf, IntKind.min, IntKind.max, IntKind.signed, IntKind.bits]; omega
  refine ⟨.int .u8 b.toNat, ?_, .inr rfl, .v _ hwf⟩
  subst hn
  simp only [execOp, e1, e2, Sem.run_bind, Instr.index, asIntOf, Sem.run_pure, Result.andThen_ok, Uu (BO ht hk), Int.toNat_natCast]
  rw [if_pos (by omega), hj]
  simp only [Sem.run_pure, Result.andThen_ok, Sem.run_bind]
end
section
variable {E : En} {N : Nat} {P : Program} {T : Tb P} {ops : Array Oper} {o : Oper} {st : St} {d : Nat} {ty : Nat} {pos : String} {af : Array Edge} {gd : Option (Nat × Bool)}
theorem Y4 {b : Builtin} {args : Array Operand} {ats : Array TypeId} {a : Act} {w : World} : ∃ cs, (execOp a.eval ⟨some d, .call { callee := .builtin b, args := args, argTypes := ats }, ty, pos, af, gd⟩).run P w =
  (builtin b ats ty cs (args.map a.eval)).run P w := by
 refine ⟨args.map (fun x => match x with | .const _ => true | _ => false), ?_⟩
 simp only [execOp, resolve, invoke, Sem.run_bind, Sem.run_pure, Result.andThen_ok]
 rfl
theorem run_len_slice {t e : TypeId} {tt : TE} {a : Option Addr} {n cap : Nat} {w : World} {ty : TypeId} (ht : Zn T.ty t = some tt) (hk : tt.kd = .slice e) : (Builtin.len_ #[t] ty #[.slice a n cap]).run P w = .ok (.int .i64 n) w := by
 simp [Builtin.len_, Sem.run_bind, Uu (KN ht hk), Result.andThen_ok, Sem.run_pure, goInt]
theorem Q9m {n : Nat} (h : n ≤ maxLen) : (Lit.int .i64 n).wf = true := by
 unfold maxLen at h
 simp [Lit.wf, IntKind.min, IntKind.max, IntKind.signed, IntKind.bits]; omega
theorem Qes {x : Operand} {t e : TypeId} {tt : TE} {k : Nat} {rows : List (List PV)} (h1 : st.ev x = .c (.p (.l k rows))) (ht : Zn T.ty t = some tt) (hk : tt.kd = .slice e) (hx : Zf x = true) :
  ZC E N P ops ⟨some d, .call { callee := .builtin .len, args := #[x], argTypes := #[t] }, ty, pos, af, gd⟩ st ⟨[], []⟩ ⟨.c (.p (.v (.int .i64 rows.length))), []⟩ :=
 Z8 fun st' cx a w ha hr => by
  obtain ⟨-, h4⟩ := Pt h1 hx ha (by simp [Op.operands, Call.operands]) hr
  revert h4
  generalize hz : a.eval x = z
  intro h4
  cases h4 with
  | l e' rows a' cap c q1 q2 q3 q4 q5 =>
   refine ⟨.int .i64 rows.length, ?_, .inr rfl, .v _ (Q9m (by omega))⟩
   obtain ⟨bc, hbc⟩ := Y4 (P := P) (d := d) (ty := ty) (pos := pos) (af := af) (gd := gd) (w := w)
   rw [hbc]
   simp only [List.map_toArray, List.map_cons, List.map_nil, hz, builtin, Sem.run_bind, run_len_slice ht hk, Result.andThen_ok, Sem.run_pure]
theorem Q5p {x : Operand} {t e : TypeId} {tt : TE} (h1 : st.ev x = .c (.p (.v (.slice none 0 0)))) (ht : Zn T.ty t = some tt) (hk : tt.kd = .slice e) (hx : Zf x = true) :
  ZC E N P ops ⟨some d, .call { callee := .builtin .len, args := #[x], argTypes := #[t] }, ty, pos, af, gd⟩ st ⟨[], []⟩ ⟨.c (.p (.v (.int .i64 (0 : Nat)))), []⟩ :=
 Z8 fun st' cx a w ha hr => by
  obtain ⟨e1, w1⟩ := Gh h1 hx ha (by simp [Op.operands, Call.operands]) hr
  refine ⟨.int .i64 (0 : Nat), ?_, .inr rfl, .v _ rfl⟩
  obtain ⟨bc, hbc⟩ := Y4 (P := P) (d := d) (ty := ty) (pos := pos) (af := af) (gd := gd) (w := w)
  rw [hbc]
  simp only [List.map_toArray, List.map_cons, List.map_nil, e1, builtin, Sem.run_bind, run_len_slice ht hk, Result.andThen_ok, Sem.run_pure]
theorem Gj [T : Tb P] {x : Operand} {t e : TypeId} {tt : TE} {b : Qw} {off n : Nat} (h1 : st.ev x = .c (.sl b off n) := by exact rfl) (hb : (st.h b).isSome = true := by exact rfl) (ht : Zn T.ty t = some tt := by exact rfl) (hk : tt.kd = .slice e := by exact rfl) (hx : Zf x = true := by exact rfl) :
  ZC E N P ops ⟨some d, .call { callee := .builtin .len, args := #[x], argTypes := #[t] }, ty, pos, af, gd⟩ st ⟨[b], []⟩ ⟨.c (.p (.v (.int .i64 n))), []⟩ :=
 Z8 fun st' cx a w ha hr => by
  obtain ⟨-, h4⟩ := Pt h1 hx ha (by simp [Op.operands, Call.operands]) hr
  obtain ⟨bk, hbk⟩ := Option.isSome_iff_exists.1 hb
  have hb' : st'.h b = some bk := by rw [ha.2 b (by simp)]; exact hbk
  obtain ⟨a', cap, h5, h6, h7, h8, h9⟩ := h4 _ hb'
  refine ⟨.int .i64 n, ?_, .inr rfl, .v _ (Q9m (by omega))⟩
  obtain ⟨bc, hbc⟩ := Y4 (P := P) (d := d) (ty := ty) (pos := pos) (af := af) (gd := gd) (w := w)
  rw [hbc]
  simp only [List.map_toArray, List.map_cons, List.map_nil, h5, builtin, Sem.run_bind, run_len_slice ht hk, Result.andThen_ok, Sem.run_pure]
theorem HI [T : Tb P] {x : Operand} {t : TypeId} {tt : TE} {s : ByteArray} (h1 : st.ev x = .c (.p (.v (.string s))) := by exact rfl) (ht : Zn T.ty t = some tt := by exact rfl) (hk : tt.kd = .string := by exact rfl) (hx : Zf x = true := by exact rfl) :
  ZC E N P ops ⟨some d, .call { callee := .builtin .len, args := #[x], argTypes := #[t] }, ty, pos, af, gd⟩ st ⟨[], []⟩ ⟨.c (.p (.v (.int .i64 s.size))), []⟩ :=
 Z8 fun st' cx a w ha hr => by
  obtain ⟨e1, w1⟩ := Gh h1 hx ha (by simp [Op.operands, Call.operands]) hr
  have hs : s.size ≤ maxLen := of_decide_eq_true w1
  refine ⟨.int .i64 s.size, ?_, .inr rfl, .v _ (Q9m hs)⟩
  obtain ⟨bc, hbc⟩ := Y4 (P := P) (d := d) (ty := ty) (pos := pos) (af := af) (gd := gd) (w := w)
  rw [hbc]
  simp [List.map_toArray, List.map_cons, List.map_nil, e1, builtin, Sem.run_bind, Builtin.len_, Uu (BO ht hk), Result.andThen_ok, Sem.run_pure, goInt]
theorem Qrd {x y : Operand} {t1 t2 : TypeId} {k : IntKind} {a b n : Int} (h1 : st.ev x = .c (.p (.v (.int k a))) := by exact rfl) (h2 : st.ev y = .c (.p (.v (.int k b))) := by exact rfl) (hn : (if b < a then b else a) = n := by exact rfl) (hx : Zf x = true := by exact rfl) (hy : Zf y = true := by exact rfl) :
  ZC E N P ops ⟨some d, .call { callee := .builtin .min, args := #[x, y], argTypes := #[t1, t2] }, ty, pos, af, gd⟩ st ⟨[], []⟩ ⟨.c (.p (.v (.int k n))), []⟩ :=
 Z8 fun st' cx a' w ha hr => by
  obtain ⟨e1, w1⟩ := Gh h1 hx ha (by simp [Op.operands, Call.operands]) hr
  obtain ⟨e2, w2⟩ := Gh h2 hy ha (by simp [Op.operands, Call.operands]) hr
  have hwf : Jm (.int k n) = true := by rw [← hn]; split <;> assumption
  refine ⟨.int k n, ?_, .inr rfl, .v _ hwf⟩
  obtain ⟨bc, hbc⟩ := Y4 (P := P) (d := d) (ty := ty) (pos := pos) (af := af) (gd := gd) (w := w)
  rw [hbc]
  simp [List.map_toArray, List.map_cons, List.map_nil, e1, e2, builtin, Sem.run_bind, Builtin.min_, Builtin.min2, Result.andThen_ok, Sem.run_pure, hn]
theorem Qre {x y : Operand} {t1 t2 : TypeId} {k : IntKind} {a b n : Int} (h1 : st.ev x = .c (.p (.v (.int k a))) := by exact rfl) (h2 : st.ev y = .c (.p (.v (.int k b))) := by exact rfl) (hn : (if b > a then b else a) = n := by exact rfl) (hx : Zf x = true := by exact rfl) (hy : Zf y = true := by exact rfl) :
  ZC E N P ops ⟨some d, .call { callee := .builtin .max, args := #[x, y], argTypes := #[t1, t2] }, ty, pos, af, gd⟩ st ⟨[], []⟩ ⟨.c (.p (.v (.int k n))), []⟩ :=
 Z8 fun st' cx a' w ha hr => by
  obtain ⟨e1, w1⟩ := Gh h1 hx ha (by simp [Op.operands, Call.operands]) hr
  obtain ⟨e2, w2⟩ := Gh h2 hy ha (by simp [Op.operands, Call.operands]) hr
  have hwf : Jm (.int k n) = true := by rw [← hn]; split <;> assumption
  refine ⟨.int k n, ?_, .inr rfl, .v _ hwf⟩
  obtain ⟨bc, hbc⟩ := Y4 (P := P) (d := d) (ty := ty) (pos := pos) (af := af) (gd := gd) (w := w)
  rw [hbc]
  simp [List.map_toArray, List.map_cons, List.map_nil, e1, e2, builtin, Sem.run_bind, Builtin.max_, Builtin.max2, Result.andThen_ok, Sem.run_pure, hn]
def Bd (st : St) : Option Operand → Nat → Nat → Prop
 | none, dflt, n => n = dflt
 | some x, _, n => Zf x = true ∧ ∃ k z, st.ev x = .c (.p (.v (.int k z))) ∧ z = (n : Int)
theorem Nk {x : Option Operand} {dflt n : Nat} {f : Fp} {st' : St} {cx : Cx} {a : Act} {w : World} (h : Bd st x dflt n) (ha : Agree ops o f st st') (hm : ∀ y, x = some y → y ∈ o.op.operands.toList) (hr : Xx E N cx st' a w) :
  (x = none ∧ n = dflt) ∨ ∃ y k, x = some y ∧ a.eval y = .int k n := by
 cases x with
 | none => exact .inl ⟨rfl, h⟩
 | some y =>
  obtain ⟨hc, k, z, h1, rfl⟩ := h
  exact .inr ⟨y, k, rfl, (Gh h1 hc ha (hm y rfl) hr).1⟩
theorem Lg {sl : Bool} {len cap lo hi : Nat} {a : Act} {x y : Option Operand} {w : World} (hx : (x = none ∧ lo = 0) ∨ ∃ z k, x = some z ∧ a.eval z = .int k lo) (hy : (y = none ∧ hi = len) ∨ ∃ z k, y = some z ∧ a.eval z = .int k hi) (h1 : lo ≤ hi) (h2 : hi ≤ cap) :
  (Instr.sliceBounds sl len cap (x.map a.eval) (y.map a.eval) none).run P w = .ok (lo, hi, cap) w := by
 have hb : ∀ (k : IntKind) (n m : Nat) (c : BoundsCode), n ≤ m → (Instr.sliceBound (.int k n) m c).run P w = .ok n w := by
  intro k n m c h
  simp only [Instr.sliceBound, asIntOf, Sem.run_bind, Sem.run_pure, Result.andThen_ok]
  rw [if_pos (by omega)]
  simp [Sem.run_pure]
 rcases hx with ⟨rfl, rfl⟩ | ⟨z, k, rfl, hz⟩ <;> rcases hy with ⟨rfl, rfl⟩ | ⟨z', k', rfl, hz'⟩ <;>
  simp [Instr.sliceBounds, Sem.run_bind, Sem.run_pure, Result.andThen_ok, hb, h1, h2, *]
theorem Qrf {w : World} {A : Nat → Prop} {e : Nat} {rows : List (List PV)} {a : Option Addr} {cap lo hi : Nat} (h : RP w A (.l e rows) (.slice a rows.length cap)) (h1 : lo ≤ hi) (h2 : hi ≤ rows.length) :
  RP w A (.l e ((rows.take hi).drop lo)) (.slice (if cap = lo then a else a.map (·.add (lo * e))) (hi - lo) (cap - lo)) := by
 have hlen : ((rows.take hi).drop lo).length = hi - lo := by rw [List.length_drop, List.length_take]; omega
 cases h with
 | l e rows a cap c q1 q2 q3 q4 q5 =>
  have hat : ∀ (i : Nat) (r : List PV), ((rows.take hi).drop lo)[i]? = some r → rows[lo + i]? = some r := by
   intro i r hi'
   rw [List.getElem?_drop, List.getElem?_take] at hi'
   split at hi'
   ·exact hi'
   ·cases hi'
  have key := RP.l (w := w) (A := A) e ((rows.take hi).drop lo) (if cap = lo then a else a.map (·.add (lo * e))) (cap - lo) (fun i k => c (lo + i) k) (by omega) (by omega)
   (fun r hr => q3 r (List.mem_of_mem_take (List.mem_of_mem_drop hr))) ?_ (fun i r k p hi' hk => q5 (lo + i) r k p (hat i r hi') hk)
  ·rw [hlen] at key; exact key
  ·by_cases hc : cap = lo
   ·left
    apply List.eq_nil_of_length_eq_zero
    omega
   ·rcases q4 with rfl | ⟨g, off, rfl, hg, hl, hcell⟩
    ·left; simp
    ·right
     rw [if_neg hc]
     refine ⟨g, off + lo * e, by simp [addr_add], hg, hl, fun i r k p hi' hk => ?_⟩
     rw [← hcell (lo + i) r k p (hat i r hi') hk, Nat.add_mul]
     congr 2
     omega
theorem Q5q {x : Operand} {y z : Option Operand} {t el e lo hi : Nat} {rows : List (List PV)} {tt te : TE} (h1 : st.ev x = .c (.p (.l e rows))) (hlo : Bd st y 0 lo) (hhi : Bd st z rows.length hi) (hlh : lo ≤ hi) (hhl : hi ≤ rows.length)
  (ht : Zn T.ty t = some tt) (hk : tt.kd = .slice el) (hel : Zn T.ty el = some te) (he : te.size = e) (hx : Zf x = true) :
  ZC E N P ops ⟨some d, .slice t x y z none, ty, pos, af, gd⟩ st ⟨[], []⟩ ⟨.c (.p (.l e ((rows.take hi).drop lo))), []⟩ :=
 Z8 fun st' cx a w ha hr => by
  obtain ⟨-, h4⟩ := Pt h1 hx ha (by simp [Op.operands]) hr
  have b1 := Nk hlo ha (fun y hy => by subst hy; simp [Op.operands]) hr
  have b2 := Nk hhi ha (fun y hy => by subst hy; simp [Op.operands]) hr
  revert h4
  generalize hz : a.eval x = v
  intro h4
  have hsh : ∃ a' cap, v = .slice a' rows.length cap ∧ rows.length ≤ cap := by cases h4 with | l e rows a' cap c q1 q2 q3 q4 q5 => exact ⟨a', cap, rfl, q1⟩
  obtain ⟨a', cap, rfl, hcap⟩ := hsh
  have hbd := Lg (P := P) (sl := true) (len := rows.length) (cap := cap) (w := w) b1 b2 hlh (by omega)
  refine ⟨_, ?_, .inr ?_, Qrf h4 hlh hhl⟩
  ·simp only [execOp, hz, Sem.run_bind, Instr.sliceAt, Uu (KN ht hk), Result.andThen_ok, Instr.slice, Option.map_none, hbd, Uv (T.ok _ _ hel), he, Sem.run_pure]
  ·rfl
theorem Gk {x : Operand} {y z : Option Operand} {t el e lo hi off n off' n' : Nat} {b : Qw} {rows : List (List PV)} {mu : Bool} {tt te : TE} (h1 : st.ev x = .c (.sl b off n)) (hb : st.h b = some (.row e rows mu)) (hlo : Bd st y 0 lo) (hhi : Bd st z n hi) (hlh : lo ≤ hi) (hhl : hi ≤ n)
  (ht : Zn T.ty t = some tt) (hk : tt.kd = .slice el) (hel : Zn T.ty el = some te) (he : te.size = e) (ho : off + lo = off') (hn : hi - lo = n') (hx : Zf x = true) :
  ZC E N P ops ⟨some d, .slice t x y z none, ty, pos, af, gd⟩ st ⟨[b], []⟩ ⟨.c (.sl b off' n'), []⟩ :=
 Z8 fun st' cx a w ha hr => by
  obtain ⟨-, h4⟩ := Pt h1 hx ha (by simp [Op.operands]) hr
  have b1 := Nk hlo ha (fun y hy => by subst hy; simp [Op.operands]) hr
  have b2 := Nk hhi ha (fun y hy => by subst hy; simp [Op.operands]) hr
  have hb' : st'.h b = some (.row e rows mu) := by rw [ha.2 b (by simp)]; exact hb
  obtain ⟨a', cap, h5, h6, h7, h8, h9⟩ := h4 _ hb'
  have hbd := Lg (P := P) (sl := true) (len := n) (cap := cap) (w := w) b1 b2 hlh (by omega)
  refine ⟨.slice (if cap = lo then a' else a'.map (·.add (lo * e))) (hi - lo) (cap - lo), ?_, .inr rfl, fun bk2 h10 => ?_⟩
  ·simp only [execOp, h5, Sem.run_bind, Instr.sliceAt, Uu (KN ht hk), Result.andThen_ok, Instr.slice, Option.map_none, hbd, Uv (T.ok _ _ hel), he, Sem.run_pure]
  ·rw [hb'] at h10; cases h10
   refine ⟨_, cap - lo, by rw [← hn], by omega, by omega, by simp only [Bk.len] at h8 ⊢; omega, ?_⟩
   by_cases hc : cap = lo
   ·left; omega
   ·rcases h9 with h9 | ⟨g, c, el', fz, h9, rfl, h11, h12⟩
    ·exact absurd (show cap = lo by omega) hc
    ·right
     rw [if_neg hc]
     refine ⟨g, c, el', fz, h9, ?_, h11, ?_⟩
     ·simp only [Option.map_some, addr_add, Bk.e, ← ho, Nat.add_mul]
     ·simp only [Bk.e] at h12 ⊢
      intro he
      rw [h12 he]
      congr 1
      omega
theorem F6 {x : Operand} {y z : Option Operand} {t lo hi : Nat} {s : ByteArray} {tt : TE} (h1 : st.ev x = .c (.p (.v (.string s)))) (hlo : Bd st y 0 lo) (hhi : Bd st z s.size hi) (hlh : lo ≤ hi) (hhl : hi ≤ s.size)
  (ht : Zn T.ty t = some tt) (hk : tt.kd = .string) (hx : Zf x = true) :
  ZC E N P ops ⟨some d, .slice t x y z none, ty, pos, af, gd⟩ st ⟨[], []⟩ ⟨.c (.p (.v (.string (s.extract lo hi)))), []⟩ :=
 Z8 fun st' cx a w ha hr => by
  obtain ⟨e1, w1⟩ := Gh h1 hx ha (by simp [Op.operands]) hr
  have b1 := Nk hlo ha (fun y hy => by subst hy; simp [Op.operands]) hr
  have b2 := Nk hhi ha (fun y hy => by subst hy; simp [Op.operands]) hr
  have hs : s.size ≤ maxLen := of_decide_eq_true w1
  have hwf : Jm (.string (s.extract lo hi)) = true := by simp [Jm, ByteArray.size_extract]; omega
  refine ⟨.string (s.extract lo hi), ?_, .inr rfl, .v _ hwf⟩
  simp [execOp, e1, Sem.run_bind, Instr.sliceAt, Uu (BO ht hk), Result.andThen_ok, Instr.slice, Lg (P := P) (sl := false) (w := w) b1 b2 hlh hhl, Sem.run_pure]
def iR (k : IntKind) (l : List Int) : List (List PV) := l.map fun n => [.v (.int k n)]
theorem Gl (k : IntKind) (l : List Int) : (iR k l).length = l.length := by simp [iR]
theorem Q09 {k : IntKind} {l : List Int} {i : Nat} (h : i < l.length) : (iR k l)[i]? = some [.v (.int k (gI l i))] := by simp [iR, h, Pm h]
theorem Q9n {w : World} {A : Nat → Prop} {k : IntKind} {l : List Int} {v : Value} (h : RP w A (.l 1 (iR k l)) v) : Ints k w v l := by
 have hl := Gl k l
 revert h
 generalize hR : iR k l = R
 intro h
 cases h with
 | l e rows a cap c q1 q2 q3 q4 q5 =>
  subst hR
  have hc : ∀ i, i < l.length → c i 0 = .int k (gI l i) ∧ (Lit.int k (gI l i)).wf = true := by
   intro i hi
   have := q5 i _ 0 (.v (.int k (gI l i))) (Q09 hi) rfl
   revert this
   generalize c i 0 = y
   intro this
   cases this with | v _ h => exact ⟨rfl, h⟩
  refine ⟨a, cap, by rw [hl], by omega, q2, ?_, ?_⟩
  ·intro n hn
   obtain ⟨i, hi, rfl⟩ := List.getElem_of_mem hn
   have := (hc i hi).2
   rwa [Pm hi] at this
  ·rcases q4 with q4 | ⟨g, off, rfl, hg, hlt, hcell⟩
   ·left
    apply List.eq_nil_of_length_eq_zero
    rw [← hl, q4]; rfl
   ·refine .inr ⟨g, off, rfl, hlt, fun i hi => ?_⟩
    have := hcell i _ 0 (.v (.int k (gI l i))) (Q09 hi) rfl
    rw [(hc i hi).1] at this
    simpa using this
theorem Q9o {w : World} {A : Nat → Prop} {k : IntKind} {l : List Int} {v : Value} (h : Ints k w v l) (hA : ∀ a n cap g, v = .slice (some a) n cap → a.block = g → g < w.heap.size → A g) : RP w A (.l 1 (iR k l)) v := by
 obtain ⟨a, cap, rfl, h1, h2, h3, h4⟩ := h
 have key := RP.l (w := w) (A := A) 1 (iR k l) a cap (fun i _ => .int k (gI l i)) (by rw [Gl]; exact h1) h2 (fun r hr => by simp only [iR, List.mem_map] at hr; obtain ⟨n, _, rfl⟩ := hr; rfl) ?_ ?_
 ·rw [Gl] at key; exact key
 ·rcases h4 with rfl | ⟨g, off, rfl, hg, hc⟩
  ·exact .inl rfl
  ·refine .inr ⟨g, off, rfl, hA _ _ _ g rfl rfl hg, hg, fun i r k' p hi hk => ?_⟩
   have hlt := (List.getElem?_eq_some_iff.1 hi).1
   rw [Gl] at hlt
   rw [Q09 hlt] at hi
   cases hi
   cases k' with
   | zero => simpa using hc i hlt
   | succ k' => simp at hk
 ·intro i r k' p hi hk
  have hlt := (List.getElem?_eq_some_iff.1 hi).1
  rw [Gl] at hlt
  rw [Q09 hlt] at hi
  cases hi
  cases k' with
  | zero =>
   simp at hk
   subst hk
   exact .v _ (h3 _ (Qic hlt))
  | succ k' => simp at hk
theorem Q9p {cx : Cx} {w : World} {st : St} {b : Qw} {off n : Nat} {k : IntKind} {l : List Int} {mu : Bool} {v : Value} (hb : st.h b = some (.row 1 (iR k l) mu)) (hR : RB cx w st.h b (.row 1 (iR k l) mu)) (h : RC cx w st.h (.sl b off n) v) : Ints k w v ((l.drop off).take n) := by
 obtain ⟨a, cap, rfl, h1, h2, h3, h4⟩ := h _ hb
 simp only [Bk.len, Gl] at h3
 simp only [Bk.e] at h4
 have hl : ((l.drop off).take n).length = n := by rw [List.length_take, List.length_drop]; omega
 obtain ⟨h5, h6, h7⟩ := hR
 rcases h4 with h4 | ⟨g, c, el, fz, h8, rfl, h9, h10⟩
 ·have : n = 0 := by omega
  subst this
  refine ⟨a, cap, by simp, by simp, h2, by simp, .inl (by simp)⟩
 ·rw [h8] at h7
  obtain ⟨-, c', el', fz', capR, h11, h12, h13, h14, h15, h16, h17⟩ := h7
  rw [h9] at h11
  cases h11
  have hat : ∀ i, i < n → c[off + i]? = some (.int k (gI ((l.drop off).take n) i)) ∧ (Lit.int k (gI ((l.drop off).take n) i)).wf = true := by
   intro i hi
   have e1 : gI ((l.drop off).take n) i = gI l (off + i) := by rw [Qr4 hi, Qr3]
   obtain ⟨cv, hcv, hp⟩ := h17 (off + i) _ 0 _ (Q09 (by omega)) rfl
   rw [e1]
   revert hcv
   cases hp with
   | v _ hwf =>
    intro hcv
    simp only [Nat.mul_one, Nat.add_zero] at hcv
    exact ⟨hcv, hwf⟩
  refine ⟨_, cap, by rw [hl], by omega, h2, ?_, .inr ⟨g, off * 1, rfl, (Array.getElem?_eq_some_iff.1 h9).1, fun i hi => ?_⟩⟩
  ·intro x hx
   obtain ⟨i, hi, rfl⟩ := List.getElem_of_mem hx
   have := (hat i (by omega)).2
   rwa [Pm hi] at this
  ·rw [hl] at hi
   rw [World.cell?, h9]
   simpa using (hat i hi).1
theorem Q15 {x : Operand} {s t e : TypeId} {ts te tt : TE} {rows : List (List PV)} {l : List Int} (h1 : st.ev x = .c (.p (.l 1 rows))) (hr' : rows = iR .u8 l) (hs : Zn T.ty s = some ts) (hsk : ts.kd = .slice e) (he : Zn T.ty e = some te) (hek : te.kd = .int .u8) (ht : Zn T.ty t = some tt) (htk : tt.kd = .string) (hx : Zf x = true) :
  ZC E N P ops ⟨some d, .convert s t x, ty, pos, af, gd⟩ st ⟨[], []⟩ ⟨.c (.p (.v (.string (strOfNums l)))), []⟩ :=
 Z8 fun st' cx a w ha hr => by
  obtain ⟨-, h4⟩ := Pt h1 hx ha (by simp [Op.operands]) hr
  subst hr'
  have hI := Q9n h4
  have hsz := hI.size
  have hwf : Jm (.string (strOfNums l)) = true := by
   have : (strOfNums l).size = l.length := by show (List.map _ l).toArray.size = _; simp
   simp only [Jm, decide_eq_true_eq, this]
   unfold maxLen; omega
  refine ⟨.string (strOfNums l), ?_, .inr rfl, .v _ hwf⟩
  simp only [execOp, Sem.run_bind, Po (P := P) hI (KN hs hsk) (Qiq he hek) (BO ht htk), Result.andThen_ok, Sem.run_pure]
theorem Sz {x : Operand} {s t e : TypeId} {ts te tt : TE} {b : Qw} {off n : Nat} {rows : List (List PV)} {mu : Bool} {l : List Int} (h1 : st.ev x = .c (.sl b off n)) (hb : st.h b = some (.row 1 rows mu)) (hr' : rows = iR .u8 l) (hs : Zn T.ty s = some ts) (hsk : ts.kd = .slice e) (he : Zn T.ty e = some te) (hek : te.kd = .int .u8) (ht : Zn T.ty t = some tt) (htk : tt.kd = .string) (hx : Zf x = true) :
  ZC E N P ops ⟨some d, .convert s t x, ty, pos, af, gd⟩ st ⟨[b], []⟩ ⟨.c (.p (.v (.string (strOfNums ((l.drop off).take n))))), []⟩ :=
 Z8 fun st' cx a w ha hr => by
  obtain ⟨-, h4⟩ := Pt h1 hx ha (by simp [Op.operands]) hr
  subst hr'
  have hb' : st'.h b = some (.row 1 (iR .u8 l) mu) := by rw [ha.2 b (by simp)]; exact hb
  have hI := Q9p hb' (hr.bl b _ hb') h4
  have hsz := hI.size
  have hwf : Jm (.string (strOfNums ((l.drop off).take n))) = true := by
   have : (strOfNums ((l.drop off).take n)).size = ((l.drop off).take n).length := by show (List.map _ _).toArray.size = _; simp
   simp only [Jm, decide_eq_true_eq, this]
   unfold maxLen; omega
  refine ⟨.string (strOfNums ((l.drop off).take n)), ?_, .inr rfl, .v _ hwf⟩
  simp only [execOp, Sem.run_bind, Po (P := P) hI (KN hs hsk) (Qiq he hek) (BO ht htk), Result.andThen_ok, Sem.run_pure]
end
theorem Y5 {t : TV} {b : Qw} {x : Option Bk} {o : Oper} {st : St} (b' : Qw) : (Ef.ap ⟨t, [(b, x)]⟩ o st).h b' = if b' = b then x else st.h b' := by
 unfold St.h Ef.ap
 simp only [List.cons_append, List.nil_append, XZ]
 by_cases h : b' = b
 ·subst h
  rw [Z6.2 rfl, if_pos rfl]; rfl
 ·have : VP b b' = false := by
   cases hb : VP b b' with
   | false => rfl
   | true => exact absurd (Z6.1 hb).symm h
  rw [this, if_neg h]
def Cx.upd (cx : Cx) (b : Qw) (x : Option (Nat × Nat)) : Cx := ⟨fun b' => if b' = b then x else cx.ι b', cx.A⟩
section
variable {E : En} {N : Nat} {P : Program} {T : Tb P} {ops : Array Oper} {o : Oper} {st : St} {d : Nat} {ty : Nat} {pos : String} {af : Array Edge} {gd : Option (Nat × Bool)} {cx : Cx} {a : Act} {w w' : World} {v : Value}
theorem Qir {b : Qw} (h : WA b st) (x : Operand) : b ∉ (st.ev x).ment := by
 cases x with
 | tmp t => exact h.2.1 t
 | const v =>
  cases v with
  | agg cs =>
   intro hm
   simp only [St.ev, TV.ment, AJ, List.mem_flatMap, List.mem_map] at hm
   obtain ⟨c, ⟨y, _, rfl⟩, h2⟩ := hm
   simp [CV.ment] at h2
  | _ => simp [St.ev, TV.ment, CV.ment]
 | global g => simp [St.ev, TV.ment, CV.ment]
 | func g => simp [St.ev, TV.ment, CV.ment]
theorem Xy {A : Nat → Prop} {ob : Obj} (hh : w'.heap = w.heap.push ob) : Xg A w w' := ⟨by rw [hh]; simp, fun g _ hg => by rw [hh, Array.getElem?_push_lt hg]; simp [hg], .kept fun g hg => by rw [hh, Array.getElem?_push_lt hg]; simp [hg]⟩
theorem CB {ob : Obj} (hh : w'.heap = w.heap.push ob) {g : Nat} (hg : g < w.heap.size) : w'.heap[g]? = w.heap[g]? := by rw [hh, Array.getElem?_push_lt hg]; simp [hg]
theorem Y6 {ob : Obj} (hh : w'.heap = w.heap.push ob) : w'.heap[w.heap.size]? = some ob := by rw [hh]; simp
theorem Q5r {b b' : Qw} {bk : Bk} {t : TV} {ob : Obj} (hh : w'.heap = w.heap.push ob) (hne : b' ≠ b) : Cmp cx w st.h (cx.upd b (some (w.heap.size, 0))) w' (Ef.ap ⟨t, [(b, some bk)]⟩ o st).h b' := by
 intro bk' hb
 rw [Y5, if_neg hne] at hb
 refine ⟨bk', hb, rfl, Nat.le_refl _, by simp [Cx.upd, hne], fun g o c el fz _ h => ⟨c, el, fz, ?_, fun _ => rfl⟩⟩
 rw [CB hh (Array.getElem?_eq_some_iff.1 h).1]; exact h
theorem Mu {b : Qw} {x : Option (Nat × Nat)} (hb : b.1 < 65536) : ∀ c, Q5g c → (cx.upd b x).ι c = cx.ι c := by
 intro c hc
 simp only [Cx.upd]
 rw [if_neg]
 rintro rfl
 rcases hc with hc | hc
 ·subst hc; simp [K5] at hb
 ·omega
theorem BP (hr : Xx E N cx st a w) (hd : ∀ d, o.dst = some d → d < N) {b : Qw} (hb0 : b.1 < N) (hf : WA b st) {ob : Obj} (hh : w'.heap = w.heap.push ob) (hos : w'.os = w.os) (htp : w'.tape = w.tape) (hou : w'.output = w.output) {bk : Bk} {t : TV}
  (hRB : RB (cx.upd b (some (w.heap.size, 0))) w' (Ef.ap ⟨t, [(b, some bk)]⟩ o st).h b bk) (hRT : RT (cx.upd b (some (w.heap.size, 0))) w' (Ef.ap ⟨t, [(b, some bk)]⟩ o st).h t v) :
  Xx E N (cx.upd b (some (w.heap.size, 0))) (Ef.ap ⟨t, [(b, some bk)]⟩ o st) (a.put o.dst v) w' := by
 refine hr.step (ef := ⟨t, [(b, some bk)]⟩) hd [b] (fun b' hb' => by rw [List.mem_singleton.1 hb']; exact hf) (fun _ h => h) (fun _ h => .inl h) (Xy hh) (fun g hg _ => CB hh (Nat.lt_of_lt_of_le hg hr.sz)) hos htp hou ?_ ?_ ?_ ?_ hRT (Mu (Nat.lt_of_lt_of_le hb0 hr.hN))
 ·intro b' hb'
  exact Q5r hh (by simpa using hb')
 ·intro b' bk' hb'
  by_cases e : b' = b
  ·subst e
   rw [Y5, if_pos rfl] at hb'
   cases hb'
   exact .inr hRB
  ·rw [Y5, if_neg e] at hb'
   refine .inl ⟨by simpa using e, hb', by simp [Cx.upd, e], fun g o hg => ⟨CB hh (hr.own b' g o (by rw [hb']; simp) hg).1, fun h => h⟩⟩
 ·intro b1 b2 g o g' o' h1 h2 h3 h4 hne
  rw [Y5] at h1 h2
  simp only [Cx.upd] at h3 h4
  by_cases e1 : b1 = b <;> by_cases e2 : b2 = b
  ·exact absurd (e1.trans e2.symm) hne
  ·rw [if_pos e1] at h3; rw [if_neg e2] at h2 h4
   cases h3
   have := (hr.own b2 g' o' h2 h4).1
   omega
  ·rw [if_neg e1] at h1 h3; rw [if_pos e2] at h4
   cases h4
   have := (hr.own b1 g o h1 h3).1
   omega
  ·rw [if_neg e1] at h1 h3; rw [if_neg e2] at h2 h4
   exact hr.inj b1 b2 g o g' o' h1 h2 h3 h4 hne
 ·intro b1 g o h1 h2
  rw [Y5] at h1
  simp only [Cx.upd] at h2
  by_cases e1 : b1 = b
  ·rw [if_pos e1] at h2
   cases h2
   exact ⟨by rw [hh]; simp, .inl hr.sz⟩
  ·rw [if_neg e1] at h1 h2
   obtain ⟨h3, h4⟩ := hr.own b1 g o h1 h2
   exact ⟨by rw [hh]; simp; omega, h4⟩
def TV.cells : TV → List CV
 | .c x => [x]
 | .agg cs => cs
 | .tup _ => []
def TV.known : TV → Bool
 | .c .any => false
 | .tup _ => false
 | _ => true
theorem FW {h : Qw → Option Bk} {t : TV} (hk : t.known = true) (hr : RT cx w h t v) : RL cx w h t.cells v.cells := by
 cases t with
 | c x =>
  obtain ⟨h1, h2⟩ := hr
  have h3 : v.oneCell' = true := by
   rcases h1 with rfl | h1
   ·cases hk
   ·exact h1
  have h4 : v.cells = #[v] := by cases v <;> simp_all [Value.cells, Value.oneCell']
  rw [h4]
  refine ⟨rfl, fun i c hi => ?_⟩
  cases i with
  | zero => simp [TV.cells] at hi; subst hi; exact ⟨v, rfl, h3, h2⟩
  | succ i => simp [TV.cells] at hi
 | agg cs => obtain ⟨vs, rfl, h⟩ := hr; exact h
 | tup ts => cases hk
theorem Q5s (hr : Xx E N cx st a w) (hd : ∀ d, o.dst = some d → d < N) {b : Qw} (hb0 : b.1 < N) (hf : WA b st) {cells : Array Value} {el : TypeId} {cs : List CV} (hh : w'.heap = w.heap.push (.cells cells el)) (hos : w'.os = w.os) (htp : w'.tape = w.tape) (hou : w'.output = w.output)
  (hcs : RL cx w st.h cs cells) (hm : b ∉ AJ cs) : Xx E N (cx.upd b (some (w.heap.size, 0))) (Ef.ap ⟨.c (.ptr b 0 0), [(b, some (.box cs))]⟩ o st) (a.put o.dst (.pointer (some ⟨w.heap.size, 0, none⟩))) w' := by
 refine BP hr hd hb0 hf hh hos htp hou ?_ ?_
 ·refine ⟨w.heap.size, 0, cells, el, by simp [Cx.upd], Y6 hh, fun h => ?_, by rw [hcs.1]; omega, fun k x hx => ?_, trivial⟩
  ·have := (hr.A _ h).1; omega
  ·obtain ⟨u, hu, h1, h2⟩ := hcs.2 k x hx
   have hne : ∀ b' ∈ x.ment, b' ≠ b := fun b' hb' e => hm (Ni hx (by rw [← e]; exact hb'))
   exact ⟨u, by simpa using hu, h1, RC.tr (cx := cx) (w := w) (h := st.h) (fun _ h => h) (Xy hh) (fun b' hb' => Q5r hh (hne b' hb')) h2⟩
 ·refine ⟨.inr rfl, fun bk hbk => ⟨w.heap.size, 0, by simp [Cx.upd], ?_⟩⟩
  rw [Y5, if_pos rfl] at hbk
  cases hbk
  simp [Bk.e]
theorem Q9q {t : TV} (h : t.known = true) : t.ment = AJ t.cells := by
 cases t with
 | c x => simp [TV.ment, TV.cells, AJ]
 | agg cs => rfl
 | tup ts => cases h
theorem Qcp {x : Operand} {el : TypeId} {t : TV} (hx : st.ev x = t) (hk : t.known = true) (hc : Zf x = true) : ZC E N P ops ⟨some d, .box el x, ty, pos, af, gd⟩ st ⟨[], [(d, 0)]⟩ ⟨.c (.ptr (d, 0) 0 0), [((d, 0), some (.box t.cells))]⟩ := by
 intro st' ha hf hd cx a w Q hr
 have he := hr.ev hc
 rw [JK ha (by simp [Op.operands]), hx] at he
 have hfr := hf (d, 0) (by simp)
 have hm := Qir hfr x
 rw [JK ha (by simp [Op.operands]), hx, Q9q hk] at hm
 have hrl := FW hk he
 refine Ut (w' := { w with heap := w.heap.push (.cells (a.eval x).cells el) }) ?_ ⟨_, Q5s hr hd (b := (d, 0)) (hd d rfl) hfr rfl rfl rfl rfl hrl hm⟩
 simp only [execOp, Sem.run_bind, Instr.box, newVar, newRow, newObj, Sem.run, Result.andThen_ok, Sem.run_pure]
theorem Qet [T : Tb P] {el : TypeId} {te : TE} {zs : List Value} (he : Zn T.ty el = some te := by exact rfl) (hz : te.zero.cells.toList = zs := by exact rfl) (hat : zs.all Jm = true := by exact rfl) : ZC E N P ops ⟨some d, .alloc el, ty, pos, af, gd⟩ st ⟨[], [(d, 0)]⟩ ⟨.c (.ptr (d, 0) 0 0), [((d, 0), some (.box (zs.map fun v => .p (.v v))))]⟩ := by
 intro st' ha hf hd cx a w Q hr
 have hfr := hf (d, 0) (by simp)
 refine Ut (w' := { w with heap := w.heap.push (.cells te.zero.cells el) }) ?_ ⟨_, Q5s hr hd (b := (d, 0)) (hd d rfl) hfr rfl rfl rfl rfl ?_ ?_⟩
 ·simp only [execOp, Sem.run_bind, Instr.alloc, Qik (T.ok _ _ he), newVar, newRow, newObj, Sem.run, Result.andThen_ok, Sem.run_pure]
 ·refine ⟨by rw [← hz]; simp, fun i c hi => ?_⟩
  rw [List.getElem?_map] at hi
  cases hu : zs[i]? with
  | none => rw [hu] at hi; cases hi
  | some u =>
   rw [hu] at hi
   cases hi
   have hau := List.all_eq_true.1 hat u (List.mem_of_getElem? hu)
   exact ⟨u, by rw [← hz] at hu; simpa using hu, V3 hau, .v _ hau⟩
 ·intro hm
  simp only [AJ, List.mem_flatMap, List.mem_map] at hm
  obtain ⟨c, ⟨y, _, rfl⟩, h2⟩ := hm
  simp [CV.ment] at h2
def setAt {α : Type} : List α → Nat → List α → List α
 | cs, 0, [] => cs
 | _ :: cs, 0, v :: vs => v :: setAt cs 0 vs
 | c :: cs, k + 1, vs => c :: setAt cs k vs
 | [], _, _ => []
theorem CC {α : Type} : ∀ (cs : List α) (k : Nat) (vs : List α), k + vs.length ≤ cs.length → setAt cs k vs = cs.take k ++ vs ++ cs.drop (k + vs.length)
 | cs, 0, [], _ => by cases cs <;> simp [setAt]
 | [], 0, v :: vs, h => by simp at h
 | c :: cs, 0, v :: vs, h => by
  simp only [setAt]
  rw [CC cs 0 vs (by simpa using h)]
  simp
 | [], k + 1, vs, h => by simp at h
 | c :: cs, k + 1, vs, h => by
  simp only [setAt]
  rw [CC cs k vs (by simp at h; omega)]
  simp [Nat.add_right_comm]
theorem FX {α : Type} (cs : List α) (k : Nat) (vs : List α) (h : k + vs.length ≤ cs.length) : (setAt cs k vs).length = cs.length := by
 rw [CC cs k vs h]; simp; omega
theorem CE {α : Type} (cs : List α) (k : Nat) (vs : List α) (h : k + vs.length ≤ cs.length) (i : Nat) : (setAt cs k vs)[i]? = if i < k ∨ k + vs.length ≤ i then cs[i]? else vs[i - k]? := by
 rw [CC cs k vs h, List.append_assoc, List.getElem?_append, List.getElem?_append]
 simp only [List.length_take]
 have hk : min k cs.length = k := by omega
 rw [hk]
 by_cases h1 : i < k
 ·rw [if_pos h1, if_pos (.inl h1), List.getElem?_take, if_pos h1]
 ·rw [if_neg h1]
  by_cases h2 : i - k < vs.length
  ·rw [if_pos h2, if_neg (by omega)]
  ·rw [if_neg h2, if_pos (by omega), List.getElem?_drop]
   congr 1
   omega
theorem Iw {w : World} {g : Nat} {c c' : Array Value} {el : TypeId} {fz : Nat × Nat} (hg : w.heap[g]? = some (.cells c el fz)) (hs : c'.size = c.size) : SzK w (w.setRow g c') := fun g2 c2 el2 fz2 h2 => by
 by_cases e : g2 = g
 ·subst e
  rw [hg] at h2; cases h2
  exact ⟨c', el, _, setRow_heap w g2 c c' el _ hg, hs⟩
 ·exact ⟨c2, el2, fz2, by rw [setRow_other w g g2 c' e]; exact h2, rfl⟩
theorem Lh (hr : Xx E N cx st a w) (hd : ∀ d, o.dst = some d → d < N) {b : Qw} {bk bk' : Bk} (hb : st.h b = some bk) (hbm : bk'.e = bk.e) (hbl : bk.len ≤ bk'.len) {g q : Nat} (hι : cx.ι b = some (g, q)) (hnA : ¬ cx.A g)
  {c c' : Array Value} {el : TypeId} (hg : w.heap[g]? = some (.cells c el (0, 0))) (hw : w' = w.setRow g c') (hs : c'.size = c.size) {t : TV}
  (hRB : RB cx w' (Ef.ap ⟨t, [(b, some bk')]⟩ o st).h b bk') (hRT : RT cx w' (Ef.ap ⟨t, [(b, some bk')]⟩ o st).h t v) : Xx E N cx (Ef.ap ⟨t, [(b, some bk')]⟩ o st) (a.put o.dst v) w' := by
 have hneq : ∀ g', g' ≠ g → w'.heap[g']? = w.heap[g']? := fun g' h => by rw [hw]; exact setRow_other w g g' c' h
 have hown := hr.own b g q (by rw [hb]; simp) hι
 refine hr.step (ef := ⟨t, [(b, some bk')]⟩) hd [] (fun b' hb' => by cases hb') (fun _ h => h) (fun _ h => .inl h) ⟨by rw [hw]; simp, fun g' hA _ => hneq g' (fun e => hnA (e ▸ hA)), hw ▸ Iw hg hs⟩ (fun g' hg' hM => hneq g' (fun e => ?_)) (by rw [hw]; rfl) (by rw [hw]; rfl) (by rw [hw]; rfl) ?_ ?_ ?_ ?_ hRT (fun _ _ => rfl)
 ·subst e
  rcases hown.2 with h | h
  ·omega
  ·exact hM h
 ·intro b' _ bk2 hb2
  rw [Y5] at hb2
  by_cases e : b' = b
  ·subst e
   rw [if_pos rfl] at hb2
   cases hb2
   refine ⟨bk, hb, hbm.symm, hbl, rfl, fun g1 o1 c1 el1 fz1 h1 h2 => ?_⟩
   rw [hι] at h1; cases h1
   rw [hg] at h2; cases h2
   exact ⟨c', el, (0, 0), by rw [hw]; exact setRow_heap w g c c' el _ hg, fun _ => hs⟩
  ·rw [if_neg e] at hb2
   refine ⟨bk2, hb2, rfl, Nat.le_refl _, rfl, fun g1 o1 c1 el1 fz1 h1 h2 => ?_⟩
   have : g1 ≠ g := (hr.inj b' b g1 o1 g q (by rw [hb2]; simp) (by rw [hb]; simp) h1 hι e)
   exact ⟨c1, el1, fz1, by rw [hneq g1 this]; exact h2, fun _ => rfl⟩
 ·intro b' bk2 hb2
  by_cases e : b' = b
  ·subst e
   rw [Y5, if_pos rfl] at hb2
   cases hb2
   exact .inr hRB
  ·rw [Y5, if_neg e] at hb2
   refine .inl ⟨by simp, hb2, rfl, fun g1 o1 h1 => ⟨hneq g1 (hr.inj b' b g1 o1 g q (by rw [hb2]; simp) (by rw [hb]; simp) h1 hι e), fun h => h⟩⟩
 ·intro b1 b2 g1 o1 g2 o2 h1 h2
  rw [Y5] at h1 h2
  refine hr.inj b1 b2 g1 o1 g2 o2 ?_ ?_
  ·by_cases e : b1 = b
   ·rw [e, hb]; simp
   ·rwa [if_neg e] at h1
  ·by_cases e : b2 = b
   ·rw [e, hb]; simp
   ·rwa [if_neg e] at h2
 ·intro b1 g1 o1 h1 h2
  have : st.h b1 ≠ none := by
   rw [Y5] at h1
   by_cases e : b1 = b
   ·rw [e, hb]; simp
   ·rwa [if_neg e] at h1
  obtain ⟨h3, h4⟩ := hr.own b1 g1 o1 this h2
  exact ⟨by rw [hw]; simpa using h3, h4⟩
theorem Gn {t : TypeId} {te : TE} {g q : Nat} {u : Value} {c : Array Value} {el : TypeId} (ht : Zn T.ty t = some te) (hsz : u.cells.size = te.size) (hg : w.heap[g]? = some (.cells c el (0, 0))) (hb : q + u.cells.size ≤ c.size) (h1 : ∀ x ∈ u.cells.toList, x.oneCell' = true) :
  (storeVar t ⟨g, q, none⟩ u).run P w = .ok () (w.setRow g (c.toList.take q ++ u.cells.toList ++ c.toList.drop (q + u.cells.size)).toArray) := by
 unfold storeVar
 simp only [Sem.run_bind, Uv (T.ok _ _ ht), Result.andThen_ok]
 rw [if_neg (by rw [hsz]; simp)]
 try simp only [Sem.run_bind, Sem.run_pure, Result.andThen_ok]
 have := run_storeCells_at P g q el u.cells.toList 0 c w hg (by simpa using hb) h1
 simpa using this
theorem Q9r {h : Qw → Option Bk} {cs : List CV} {vs : Array Value} (hr : RL cx w h cs vs) : ∀ x ∈ vs.toList, x.oneCell' = true := by
 intro x hx
 obtain ⟨i, hi, rfl⟩ := List.getElem_of_mem hx
 have hi' : i < cs.length := by rw [← hr.1]; simpa using hi
 obtain ⟨u, hu, h1, _⟩ := hr.2 i cs[i] (List.getElem?_eq_getElem hi')
 have : vs[i]? = some (vs.toList[i]) := by simp
 rw [this] at hu
 cases hu
 exact h1
theorem L8 {x y : Operand} {t : TypeId} {te : TE} {b : Qw} {k : Nat} {all all' : List CV} {fm : Option Frm} {v : TV} {dst : Option Nat} (hx : st.ev x = .c (.ptr b 0 k)) (hb : st.h b = some (.box all fm)) (hv : st.ev y = v) (hk : v.known = true) (ht : Zn T.ty t = some te) (hsz : v.cells.length = te.size) (hin : k + v.cells.length ≤ all.length)
  (hall : setAt all k v.cells = all') (hcx : Zf x = true) (hcy : Zf y = true) : ZC E N P ops ⟨dst, .store t x y, ty, pos, af, gd⟩ st ⟨[b], []⟩ ⟨.c .any, [(b, some (.box all' fm))]⟩ := by
 intro st' ha hf hd cx a w Q hr
 have he := hr.ev hcy
 rw [JK ha (by simp [Op.operands]), hv] at he
 have hrl := FW hk he
 obtain ⟨-, h4⟩ := Pt hx hcx ha (by simp [Op.operands]) hr
 have hb' : st'.h b = some (.box all fm) := by rw [ha.2 b (by simp)]; exact hb
 obtain ⟨g, q, h5, h6⟩ := h4 _ hb'
 obtain ⟨g', q', c, el, h7, h8, h9, h10, h11, hfm⟩ := hr.bl b _ hb'
 rw [h5] at h7
 cases h7
 have h6' : a.eval x = .pointer (some ⟨g, q + k, none⟩) := by simpa [Bk.e] using h6
 have hcl : (a.eval y).cells.size = v.cells.length := hrl.1
 have hrun := Gn (w := w) (g := g) (q := q + k) (u := a.eval y) ht (by rw [hcl, hsz]) h8 (by omega) (Q9r hrl)
 refine upon_skip (w' := w.setRow g (c.toList.take (q + k) ++ (a.eval y).cells.toList ++ c.toList.drop (q + k + (a.eval y).cells.size)).toArray) (by
  simp only [execOp, h6', Sem.run_bind, Instr.storeAt, Instr.sureAddr, Sem.run_pure, Result.andThen_ok, hrun]) ⟨cx, ?_⟩
 have hlen : (c.toList.take (q + k) ++ (a.eval y).cells.toList ++ c.toList.drop (q + k + (a.eval y).cells.size)).toArray.size = c.size := by simp; omega
 have hcm : ∀ b', Cmp cx w st'.h cx (w.setRow g (c.toList.take (q + k) ++ (a.eval y).cells.toList ++ c.toList.drop (q + k + (a.eval y).cells.size)).toArray) (Ef.ap ⟨.c .any, [(b, some (.box all' fm))]⟩ ⟨dst, .store t x y, ty, pos, af, gd⟩ st').h b' := by
  intro b' bk2 hb2
  rw [Y5] at hb2
  by_cases e : b' = b
  ·subst e
   rw [if_pos rfl] at hb2
   cases hb2
   refine ⟨_, hb', rfl, Nat.le_refl _, rfl, fun g1 o1 c1 el1 fz1 h1 h2 => ?_⟩
   rw [h5] at h1; cases h1
   rw [h8] at h2; cases h2
   exact ⟨_, el, (0, 0), setRow_heap w g c _ el _ h8, fun _ => hlen⟩
  ·rw [if_neg e] at hb2
   refine ⟨bk2, hb2, rfl, Nat.le_refl _, rfl, fun g1 o1 c1 el1 fz1 h1 h2 => ?_⟩
   have : g1 ≠ g := (hr.inj b' b g1 o1 g q (by rw [hb2]; simp) (by rw [hb']; simp) h1 h5 e)
   exact ⟨c1, el1, fz1, by rw [setRow_other w g g1 _ this]; exact h2, fun _ => rfl⟩
 have hkeep : Xg cx.A w (w.setRow g (c.toList.take (q + k) ++ (a.eval y).cells.toList ++ c.toList.drop (q + k + (a.eval y).cells.size)).toArray) := ⟨by simp, fun g' hA _ => setRow_other w g g' _ (fun e => h9 (e ▸ hA)), Iw h8 hlen⟩
 refine Lh (t := .c .any) (bk' := .box all' fm) hr hd hb' rfl (Nat.le_refl _) h5 h9 h8 rfl hlen ⟨g, q, _, el, h5, setRow_heap w g c _ el _ h8, h9, ?_, fun j z hz => ?_, ?_⟩ ⟨.inl rfl, trivial⟩
 ·rw [hlen, ← hall, FX all k _ hin]; exact h10
 ·rw [← hall, CE all k _ hin] at hz
  have hidx : (c.toList.take (q + k) ++ (a.eval y).cells.toList ++ c.toList.drop (q + k + (a.eval y).cells.size)).toArray[q + j]? = if j < k ∨ k + v.cells.length ≤ j then c[q + j]? else (a.eval y).cells[j - k]? := by
   have h12 := CC c.toList (q + k) (a.eval y).cells.toList (by simp; omega)
   rw [show q + k + (a.eval y).cells.size = q + k + (a.eval y).cells.toList.length by simp, ← h12]
   rw [List.getElem?_toArray, CE _ _ _ (by simp; omega)]
   simp only [Array.length_toList, hcl, Array.getElem?_toList]
   by_cases h13 : j < k ∨ k + v.cells.length ≤ j
   ·rw [if_pos h13, if_pos (by omega)]
   ·rw [if_neg h13, if_neg (by omega)]
    congr 1
    omega
  rw [hidx]
  split at hz
  ·rename_i h13
   rw [if_pos h13]
   obtain ⟨cv, h14, h15, h16⟩ := h11 j z hz
   exact ⟨cv, h14, h15, h16.tr (fun _ h => h) hkeep fun b' _ => hcm b'⟩
  ·rename_i h13
   rw [if_neg h13]
   obtain ⟨u, h14, h15, h16⟩ := hrl.2 (j - k) z hz
   exact ⟨u, h14, h15, h16.tr (fun _ h => h) hkeep fun b' _ => hcm b'⟩
 ·rw [show all'.length = all.length by rw [← hall, FX all k _ hin]]
  refine (FrR.set hlen (fun j hj => ?_) hfm).imp fun _ _ h => h.keeps (fun _ h => h) hkeep
  have h12 := CC c.toList (q + k) (a.eval y).cells.toList (by simp; omega)
  rw [show q + k + (a.eval y).cells.size = q + k + (a.eval y).cells.toList.length by simp, ← h12]
  rw [List.getElem?_toArray, CE _ _ _ (by simp; omega), if_pos (by simp only [Array.length_toList, hcl]; omega), Array.getElem?_toList]
end
def AK (w : World) (A : Nat → Prop) (e : Nat) (rows : List (List PV)) (us : List Value) : Prop :=
 us.length = rows.length * e ∧ (∀ r ∈ rows, r.length = e) ∧ ∀ (i : Nat) (r : List PV) (k : Nat) (p : PV), rows[i]? = some r → r[k]? = some p → ∃ u, us[i * e + k]? = some u ∧ RP w A p u
theorem AK.nil (w : World) (A : Nat → Prop) (e : Nat) : AK w A e [] [] := ⟨by simp, by simp, by simp⟩
theorem AK.app {w : World} {A : Nat → Prop} {e : Nat} {r1 r2 : List (List PV)} {u1 u2 : List Value} (h1 : AK w A e r1 u1) (h2 : AK w A e r2 u2) : AK w A e (r1 ++ r2) (u1 ++ u2) := by
 obtain ⟨a1, b1, c1⟩ := h1
 obtain ⟨a2, b2, c2⟩ := h2
 refine ⟨by rw [List.length_append, List.length_append, a1, a2, Nat.add_mul], fun r hr => ?_, fun i r k p hi hk => ?_⟩
 ·rcases List.mem_append.1 hr with h | h
  ·exact b1 r h
  ·exact b2 r h
 ·by_cases h : i < r1.length
  ·rw [List.getElem?_append_left h] at hi
   obtain ⟨u, hu, hp⟩ := c1 i r k p hi hk
   exact ⟨u, by rw [List.getElem?_append_left (List.getElem?_eq_some_iff.1 hu).1]; exact hu, hp⟩
  ·rw [List.getElem?_append_right (by omega)] at hi
   obtain ⟨u, hu, hp⟩ := c2 _ r k p hi hk
   refine ⟨u, ?_, hp⟩
   have : u1.length ≤ i * e + k := by
    have : r1.length * e ≤ i * e := Nat.mul_le_mul_right e (by omega)
    omega
   rw [List.getElem?_append_right this, a1]
   rw [← hu]
   congr 1
   rw [Nat.sub_mul]
   have : r1.length * e ≤ i * e := Nat.mul_le_mul_right e (by omega)
   omega
theorem AK.one {w : World} {A : Nat → Prop} {e : Nat} {rows : List (List PV)} {us : List Value} (he : 0 < e) (h : AK w A e rows us) : ∀ u ∈ us, u.oneCell' = true := by
 intro u hu
 obtain ⟨j, hj, rfl⟩ := List.getElem_of_mem hu
 obtain ⟨h1, h2, h3⟩ := h
 have hi : j / e < rows.length := by
  rw [Nat.div_lt_iff_lt_mul he]; omega
 have hk : j % e < e := Nat.mod_lt _ he
 have hr := h2 _ (List.getElem_mem hi)
 obtain ⟨u, hu2, hp⟩ := h3 (j / e) rows[j / e] (j % e) (rows[j / e][j % e]'(by omega)) (List.getElem?_eq_getElem hi) (List.getElem?_eq_getElem (by omega))
 rw [Nat.mul_comm, Nat.div_add_mod] at hu2
 rw [List.getElem?_eq_getElem hj] at hu2
 cases hu2
 exact hp.one
theorem AK.keeps {w w' : World} {A A' : Nat → Prop} {e : Nat} {rows : List (List PV)} {us : List Value} (h : AK w A e rows us) (hA : ∀ g, A g → A' g) (hk : Xg A w w') : AK w' A' e rows us :=
 ⟨h.1, h.2.1, fun i r k p hi hk' => let ⟨u, hu, hp⟩ := h.2.2 i r k p hi hk'; ⟨u, hu, hp.keeps hA hk⟩⟩
theorem Q9s {w : World} {A : Nat → Prop} {e : Nat} {rows : List (List PV)} {v : Value} (h : RP w A (.l e rows) v) : ∃ a cap us, v = .slice a rows.length cap ∧ rows.length ≤ cap ∧ cap ≤ maxLen ∧ AK w A e rows us ∧
  (rows = [] ∨ ∃ ad, a = some ad ∧ (0 < e → ∀ (j : Nat) (u : Value), us[j]? = some u → w.cell? (ad.add j) = some u)) := by
 cases h with
 | l e rows a cap c q1 q2 q3 q4 q5 =>
  by_cases he : 0 < e
  ·refine ⟨a, cap, (List.range (rows.length * e)).map fun j => c (j / e) (j % e), rfl, q1, q2, ⟨by simp, q3, fun i r k p hi hk => ?_⟩, ?_⟩
   ·have hil := (List.getElem?_eq_some_iff.1 hi).1
    have hkl := (List.getElem?_eq_some_iff.1 hk).1
    have hre := q3 r (List.mem_of_getElem? hi)
    refine ⟨c i k, ?_, q5 i r k p hi hk⟩
    have hlt : i * e + k < rows.length * e := by
     have : (i + 1) * e ≤ rows.length * e := Nat.mul_le_mul_right e hil
     rw [Nat.add_mul] at this
     omega
    rw [List.getElem?_map, List.getElem?_range hlt]
    simp only [Option.map_some]
    have h1 : (i * e + k) / e = i := by
     rw [Nat.mul_comm, Nat.mul_add_div he, Nat.div_eq_of_lt (by omega)]; omega
    have h2 : (i * e + k) % e = k := by
     rw [Nat.mul_comm, Nat.mul_add_mod]; exact Nat.mod_eq_of_lt (by omega)
    rw [h1, h2]
   ·rcases q4 with q4 | ⟨g, off, rfl, hg, hl, hcell⟩
    ·exact .inl q4
    ·refine .inr ⟨_, rfl, fun _ j u hj => ?_⟩
     rw [List.getElem?_map] at hj
     have hjl : j < rows.length * e := by
      have := (List.getElem?_eq_some_iff.1 (Option.map_eq_some_iff.1 hj).choose_spec.1).1
      simpa using this
     rw [List.getElem?_range hjl] at hj
     simp only [Option.map_some, Option.some.injEq] at hj
     subst hj
     have hi : j / e < rows.length := by rw [Nat.div_lt_iff_lt_mul he]; omega
     have hk : j % e < e := Nat.mod_lt _ he
     have hr := q3 _ (List.getElem_mem hi)
     have := hcell (j / e) rows[j / e] (j % e) (rows[j / e][j % e]'(by omega)) (List.getElem?_eq_getElem hi) (List.getElem?_eq_getElem (by omega))
     rw [addr_add, ← this]
     congr 2
     rw [Nat.add_assoc, Nat.mul_comm, Nat.div_add_mod]
  ·have he0 : e = 0 := by omega
   subst he0
   refine ⟨a, cap, [], rfl, q1, q2, ⟨by simp, q3, fun i r k p hi hk => ?_⟩, ?_⟩
   ·have := q3 r (List.mem_of_getElem? hi)
    have := (List.getElem?_eq_some_iff.1 hk).1
    omega
   ·rcases q4 with q4 | ⟨g, off, rfl, _⟩
    ·exact .inl q4
    ·exact .inr ⟨_, rfl, fun h => by omega⟩
theorem Pw {P : Program} (w : World) (t tx ty el : TypeId) (i : TypeInfo) (z : Value) (size bytes : Nat) (ht : P.underlying t = some (.slice el)) (hi : P.info? el = some i) (hz : i.zero = some z)
    (hsize : i.size = size) (hby : i.bytes = bytes) (hzs : z.cells.size = size) (v : Value) (n : Nat) (xs : List Value) (hxl : xs.length = n * size)
    (hown : (∃ a, v = .slice a 0 0 ∧ n = 0) ∨ ∃ g cap cur el', v = .slice (some ⟨g, 0, none⟩) n cap ∧ w.heap[g]? = some (.cells cur el' (0, 0)) ∧ n ≤ cap ∧ cap ≤ maxLen ∧ cur.size = cap * size ∧ cur.toList.take (n * size) = xs ∧ 0 < cap)
    (x : Value) (m : Nat) (news : List Value) (hs : Src P size tx x m news w) (h63 : n + m ≤ maxLen) (hbytes : (n + m) * bytes ≤ 140737488355328) :
    ∃ v' w', (Builtin.append_ #[t, tx] ty #[v, x]).run P w = .ok v' w' ∧
      ((∃ a, v' = .slice a 0 0 ∧ w' = w ∧ n + m = 0) ∨
       (∃ g cap cur el' cur', v = .slice (some ⟨g, 0, none⟩) n cap ∧ w.heap[g]? = some (.cells cur el' (0, 0)) ∧ v' = .slice (some ⟨g, 0, none⟩) (n + m) cap ∧ n + m ≤ cap ∧ cap ≤ maxLen ∧ w' = w.setRow g cur' ∧ cur'.size = cur.size ∧ cur.size = cap * size ∧ cur'.toList.take ((n + m) * size) = xs ++ news ∧ 0 < cap) ∨
       (∃ cap cur', v' = .slice (some ⟨w.heap.size, 0, none⟩) (n + m) cap ∧ n + m ≤ cap ∧ cap ≤ maxLen ∧ w'.heap = w.heap.push (.cells cur' el) ∧ w'.os = w.os ∧ w'.tape = w.tape ∧ w'.output = w.output ∧ cur'.size = cap * size ∧ cur'.toList.take ((n + m) * size) = xs ++ news)) := by
  subst hsize
  subst hby
  have hl := hs.newsLen
  have hlen : (xs ++ news).length = (n + m) * i.size := by rw [List.length_append, hxl, hl, Nat.add_mul]
  have hsmall : n + m ≤ 9223372036854775807 := by simp only [maxLen] at h63; omega
  have grown : ∀ (old : Nat), ∃ cap cur', (Value.slice (some ⟨w.heap.size, 0, none⟩) (n + m) (grownCap w (n + m) old el)) = .slice (some ⟨w.heap.size, 0, none⟩) (n + m) cap ∧ n + m ≤ cap ∧ cap ≤ maxLen ∧
      (w.drew.alloc (.cells ((xs ++ news).toArray ++ Builtin.zeroCells z.cells (grownCap w (n + m) old el - (n + m))) el)).heap = w.heap.push (.cells cur' el) ∧ (w.drew.alloc (.cells ((xs ++ news).toArray ++ Builtin.zeroCells z.cells (grownCap w (n + m) old el - (n + m))) el)).os = w.os ∧
      (w.drew.alloc (.cells ((xs ++ news).toArray ++ Builtin.zeroCells z.cells (grownCap w (n + m) old el - (n + m))) el)).tape = w.tape ∧ (w.drew.alloc (.cells ((xs ++ news).toArray ++ Builtin.zeroCells z.cells (grownCap w (n + m) old el - (n + m))) el)).output = w.output ∧
      cur'.size = cap * i.size ∧ cur'.toList.take ((n + m) * i.size) = xs ++ news := by
    intro old
    have hge := grownCap_ge w (n + m) old el
    have hcm : grownCap w (n + m) old el ≤ maxLen := grownCap_le_maxLen w (n + m) old el h63
    refine ⟨_, (xs ++ news).toArray ++ Builtin.zeroCells z.cells (grownCap w (n + m) old el - (n + m)), rfl, hge, hcm, rfl, rfl, rfl, rfl, ?_, ?_⟩
    · simp only [Array.size_append, List.size_toArray, size_zeroCells, hzs, hlen, ← Nat.add_mul]
      congr 1
      omega
    · simp only [Array.toList_append]
      rw [← hlen]
      exact List.take_left
  rcases hown with ⟨a, rfl, rfl⟩ | ⟨g, cap, cur, el', rfl, hg, hnc, hcm, hcs, htake, hpos⟩
  · have hx : xs = [] := List.eq_nil_of_length_eq_zero (by simpa using hxl)
    subst hx
    by_cases hm : m = 0
    · subst hm
      have hn : news = [] := List.eq_nil_of_length_eq_zero (by simpa using hl)
      subst hn
      refine ⟨.slice a 0 0, w, ?_, .inl ⟨a, rfl, rfl, rfl⟩⟩
      rcases hs.kind with ⟨e', hk⟩ | hk <;> cases a <;> simp [Builtin.append_, run_underlying ht, run_underlying hk, sizeOf, typeInfo, hi, hs.len, hs.cells, storeCells]
    · have hold : (Builtin.firstCells i.size 0 (.slice a 0 0)).run P w.drew = .ok (#[] : Array Value) w.drew := by
        cases a with
        | none => exact run_firstCells_none w.drew i.size 0 0 0
        | some a => simp [Builtin.firstCells, loadCells, loadCellsFrom, Sem.run_pure]
      have hr := run_append_grow_src (P := P) w t tx ty el i z ht hi hz a 0 0 [] hold x m news hs (by omega) (by omega) (growslice_fits (by omega) (by simpa using hbytes))
      have hgr := grown 0
      simp only [Nat.zero_add, List.nil_append] at hgr hr ⊢
      exact ⟨_, _, hr, .inr (.inr hgr)⟩
  · by_cases hroom : n + m ≤ cap
    · have hfit : n * i.size + news.length ≤ cur.size := by rw [hl, hcs, ← Nat.add_mul]; exact Nat.mul_le_mul_right _ hroom
      have hst := run_storeCells_at P g (n * i.size) el' news 0 cur w hg (by simpa using hfit) hs.one
      simp only [Nat.add_zero] at hst
      have hr : (Builtin.append_ #[t, tx] ty #[.slice (some ⟨g, 0, none⟩) n cap, x]).run P w = .ok (.slice (some ⟨g, 0, none⟩) (n + m) cap) (w.setRow g (cur.toList.take (n * i.size) ++ news ++ cur.toList.drop (n * i.size + news.length)).toArray) := by
        rcases hs.kind with ⟨e', hk⟩ | hk <;> simp [Builtin.append_, run_underlying ht, run_underlying hk, sizeOf, typeInfo, hi, hs.len, hroom, hs.cells, Addr.add_lit, hst]
      refine ⟨_, _, hr, .inr (.inl ⟨g, cap, cur, el', _, rfl, hg, rfl, hroom, hcm, rfl, ?_, hcs, ?_, hpos⟩)⟩
      · simp only [List.size_toArray, List.length_append, List.length_take, List.length_drop, Array.length_toList]
        omega
      · rw [htake, ← hlen]
        exact List.take_left
    · have hr := run_append_grow_src (P := P) w t tx ty el i z ht hi hz (some ⟨g, 0, none⟩) n cap xs (run_firstCells_some w.drew i.size n ⟨g, 0, none⟩ n cap xs hxl (fun j u hj => by
        rw [addr_add, Nat.zero_add, World.cell?]
        show (match w.heap[g]? with | some (.cells c _ _) => _ | _ => _) = _
        rw [hg]
        rw [← htake, List.getElem?_take] at hj
        split at hj
        · simpa using hj
        · cases hj)) x m news hs (by omega) (by omega) (growslice_fits (by omega) hbytes)
      exact ⟨_, _, hr, .inr (.inr (grown cap))⟩
section
variable {E : En} {N : Nat} {P : Program} {T : Tb P} {ops : Array Oper} {o : Oper} {st : St} {d : Nat} {ty : Nat} {pos : String} {af : Array Edge} {gd : Option (Nat × Bool)} {cx : Cx} {a : Act} {w w' : World} {v : Value}
def Q5t (E : En) (N : Nat) (P : Program) (ops : Array Oper) (o : Oper) (st : St) (rb : List Qw) (tx : TypeId) (e : Nat) (y : Operand) (rows : List (List PV)) : Prop :=
 ∀ st' cx a w, Agree ops o ⟨rb, []⟩ st st' → Xx E N cx st' a w → ∃ us, AK w cx.A e rows us ∧ Src P e tx (a.eval y) rows.length us w
theorem Qze {y : Operand} {tx e' : TypeId} {e : Nat} {tt : TE} {rows : List (List PV)} (hm : y ∈ o.op.operands.toList) (hy : Zf y = true) (h1 : st.ev y = .c (.p (.l e rows))) (he : 0 < e) (ht : Zn T.ty tx = some tt) (hk : tt.kd = .slice e') : Q5t E N P ops o st [] tx e y rows := by
 intro st' cx a w ha hr
 obtain ⟨-, h4⟩ := Pt h1 hy ha hm hr
 obtain ⟨a', cap, us, h5, h6, h7, h8, h9⟩ := Q9s h4
 refine ⟨us, h8, ?_⟩
 rw [h5]
 rcases h9 with rfl | ⟨ad, rfl, hc⟩
 ·have hus : us = [] := List.eq_nil_of_length_eq_zero (by simpa using h8.1)
  subst hus
  cases a' with
  | none => exact Src.ofNil w (KN ht hk) cap
  | some a' => exact Src.ofSlice w (KN ht hk) a' 0 cap [] (by simp) (by simp) (by simp)
 ·exact Src.ofSlice w (KN ht hk) ad _ cap us h8.1 (hc he) (h8.one he)
theorem Qis {y : Operand} {tx e' : TypeId} {e : Nat} {tt : TE} (hm : y ∈ o.op.operands.toList) (hy : Zf y = true) (h1 : st.ev y = .c (.p (.v (.slice none 0 0)))) (ht : Zn T.ty tx = some tt) (hk : tt.kd = .slice e') : Q5t E N P ops o st [] tx e y [] := by
 intro st' cx a w ha hr
 obtain ⟨e1, -⟩ := Gh h1 hy ha hm hr
 exact ⟨[], AK.nil _ _ _, by rw [e1]; exact Src.ofNil w (KN ht hk) 0⟩
theorem Qcq {y : Operand} {tx e' : TypeId} {e off n : Nat} {b : Qw} {tt : TE} {rows : List (List PV)} {mu : Bool} (hm : y ∈ o.op.operands.toList) (hy : Zf y = true) (h1 : st.ev y = .c (.sl b off n)) (hb : st.h b = some (.row e rows mu)) (ht : Zn T.ty tx = some tt) (hk : tt.kd = .slice e') :
  Q5t E N P ops o st [b] tx e y ((rows.drop off).take n) := by
 intro st' cx a w ha hr
 obtain ⟨-, h4⟩ := Pt h1 hy ha hm hr
 have hb' : st'.h b = some (.row e rows mu) := by rw [ha.2 b (by simp)]; exact hb
 obtain ⟨a', cap, h5, h6, h7, h8, h9⟩ := h4 _ hb'
 obtain ⟨he, hre, hrb⟩ := hr.bl b _ hb'
 simp only [Bk.len] at h8
 simp only [Bk.e] at h9
 have hlen : ((rows.drop off).take n).length = n := by rw [List.length_take, List.length_drop]; omega
 rw [h5]
 rcases h9 with h9 | ⟨g, c, el, fz, h10, rfl, h11, h12⟩
 ·have hn : n = 0 := by omega
  subst hn
  refine ⟨[], by simpa using AK.nil _ _ _, ?_⟩
  have : ((rows.drop off).take 0).length = 0 := by simp
  rw [this]
  cases a' with
  | none => exact Src.ofNil w (KN ht hk) cap
  | some a' => exact Src.ofSlice w (KN ht hk) a' 0 cap [] (by simp) (by simp) (by simp)
 ·rw [h10] at hrb
  obtain ⟨-, c', el', fz', capR, h13, h14, h15, h16, h17, h18, h19⟩ := hrb
  rw [h11] at h13
  cases h13
  have hR : AK w cx.A e ((rows.drop off).take n) ((c.toList.drop (off * e)).take (n * e)) := by
   refine ⟨?_, fun r hr => hre r (List.mem_of_mem_drop (List.mem_of_mem_take hr)), fun i r k p hi hk => ?_⟩
   ·rw [hlen, List.length_take, List.length_drop, Array.length_toList, h12 he, ← Nat.sub_mul]
    have : n * e ≤ (off + cap - off) * e := Nat.mul_le_mul_right e (by omega)
    omega
   ·rw [List.getElem?_take] at hi
    split at hi
    ·rename_i hin
     rw [List.getElem?_drop] at hi
     obtain ⟨cv, hcv, hp⟩ := h19 (off + i) r k p hi hk
     refine ⟨cv, ?_, hp⟩
     have hkl := (List.getElem?_eq_some_iff.1 hk).1
     have hrl := hre r (List.mem_of_getElem? hi)
     have hlt : i * e + k < n * e := by
      have : (i + 1) * e ≤ n * e := Nat.mul_le_mul_right e hin
      rw [Nat.add_mul] at this
      omega
     rw [List.getElem?_take, if_pos hlt, List.getElem?_drop, Array.getElem?_toList, ← hcv, Nat.add_mul]
     congr 1
     omega
    ·cases hi
  refine ⟨_, hR, ?_⟩
  rw [hlen]
  refine Src.ofSlice w (KN ht hk) _ n cap _ (by rw [hR.1, hlen]) (fun j u hj => ?_) (hR.one he)
  rw [List.getElem?_take] at hj
  split at hj
  ·rw [List.getElem?_drop, Array.getElem?_toList] at hj
   rw [addr_add, World.cell?, h11]
   simpa using hj
  ·cases hj
theorem Qit {y : Operand} {tx : TypeId} {tt : TE} {s : ByteArray} (hm : y ∈ o.op.operands.toList) (hy : Zf y = true) (h1 : st.ev y = .c (.p (.v (.string s)))) (ht : Zn T.ty tx = some tt) (hk : tt.kd = .string) : Q5t E N P ops o st [] tx 1 y (iR .u8 (sI s)) := by
 intro st' cx a w ha hr
 obtain ⟨e1, -⟩ := Gh h1 hy ha hm hr
 refine ⟨(sI s).map (.int .u8), ⟨by simp [Gl], fun r hr => by simp only [iR, List.mem_map] at hr; obtain ⟨n, _, rfl⟩ := hr; rfl, fun i r k p hi hk => ?_⟩, ?_⟩
 ·have hlt := (List.getElem?_eq_some_iff.1 hi).1
  rw [Gl] at hlt
  rw [Q09 hlt] at hi
  cases hi
  cases k with
  | zero =>
   simp at hk
   subst hk
   refine ⟨.int .u8 (gI (sI s) i), by simp [Pm hlt, hlt], .v _ (Qvp s _ (Qic hlt))⟩
  | succ k => simp at hk
 ·rw [e1, Gl]
  exact Q9f w s (BO ht hk)
theorem Mv {t : TypeId} {x : TE} (h : Zn T.ty t = some x) : ∃ i, P.info? t = some i ∧ i.size = x.size ∧ i.bytes = x.bytes ∧ i.zero = some x.zero := by
 obtain ⟨d, i, h1, h2, h3, h4, h5, h6⟩ := YI (T.ok _ _ h)
 exact ⟨i, h2, h4, h5, h6⟩
theorem Li {cx : Cx} {w : World} {h : Qw → Option Bk} {b : Qw} {e : Nat} {mu : Bool} {a : Option Addr} (hb : h b = some (.row e [] mu)) : RT cx w h (.c (.sl b 0 0)) (.slice a 0 0) :=
 ⟨.inr rfl, fun bk hbk => by rw [hb] at hbk; cases hbk; exact ⟨a, 0, rfl, Nat.le_refl _, Nat.zero_le _, Nat.le_refl _, .inl rfl⟩⟩
theorem Q5u {x y : Operand} {t tx el : TypeId} {te tt : TE} {e : Nat} {rows : List (List PV)} {rb : List Qw} (hx : st.ev x = .c (.p (.v (.slice none 0 0)))) (hcx : Zf x = true) (ht : Zn T.ty t = some tt) (hk : tt.kd = .slice el) (hel : Zn T.ty el = some te) (hes : te.size = e) (he : 0 < e) (hz : te.zero.cells.size = e)
  (hsrc : Q5t E N P ops ⟨some d, .call { callee := .builtin .append, args := #[x, y], argTypes := #[t, tx] }, ty, pos, af, gd⟩ st rb tx e y rows) (hn : rows.length ≤ 140737488355328) (hby : rows.length * te.bytes ≤ 140737488355328) :
  ZC E N P ops ⟨some d, .call { callee := .builtin .append, args := #[x, y], argTypes := #[t, tx] }, ty, pos, af, gd⟩ st ⟨rb, [(d, 0)]⟩ ⟨.c (.sl (d, 0) 0 rows.length), [((d, 0), some (.row e rows true))]⟩ := by
 intro st' ha hf hd cx a w Q hr
 obtain ⟨e1, -⟩ := Gh hx hcx ha (by simp [Op.operands, Call.operands]) hr
 obtain ⟨us, hR, hS⟩ := hsrc st' cx a w ha hr
 have hfr := hf (d, 0) (by simp)
 obtain ⟨i, hi1, hi2, hi3, hi4⟩ := Mv hel
 obtain ⟨bc, hbc⟩ := Y4 (P := P) (d := d) (ty := ty) (pos := pos) (af := af) (gd := gd) (w := w) (b := .append) (args := #[x, y]) (ats := #[t, tx]) (a := a)
 obtain ⟨v', w', hrun, hcase⟩ := Pw (P := P) w t tx ty el i te.zero e te.bytes (KN ht hk) hi1 hi4 (by rw [hi2, hes]) hi3 hz (.slice none 0 0) 0 [] (by simp) (.inl ⟨none, rfl, rfl⟩) (a.eval y) rows.length us hS (by unfold maxLen; omega) (by simpa using hby)
 have hrun' : (execOp a.eval ⟨some d, .call { callee := .builtin .append, args := #[x, y], argTypes := #[t, tx] }, ty, pos, af, gd⟩).run P w = .ok (.value v') w' := by
  rw [hbc]
  simp only [List.map_toArray, List.map_cons, List.map_nil, e1, builtin, Sem.run_bind, hrun, Result.andThen_ok, Sem.run_pure]
 rcases hcase with ⟨a', rfl, rfl, h0⟩ | ⟨g, cap, cur, el', cur', h1, _⟩ | ⟨cap, cur', rfl, h2, h3, h4, h5, h6, h7, h8, h9⟩
 ·have hrows : rows = [] := List.eq_nil_of_length_eq_zero (by omega)
  subst hrows
  -- nothing is made: the block is none
  refine Ut hrun' ⟨cx.upd (d, 0) none, ?_⟩
  have hcmp : ∀ b', b' ≠ (d, 0) → Cmp cx w' st'.h (cx.upd (d, 0) none) w' (Ef.ap ⟨.c (.sl (d, 0) 0 0), [((d, 0), some (.row e [] true))]⟩ ⟨some d, .call { callee := .builtin .append, args := #[x, y], argTypes := #[t, tx] }, ty, pos, af, gd⟩ st').h b' := by
   intro b' hb' bk' hbk
   rw [Y5, if_neg hb'] at hbk
   exact ⟨bk', hbk, rfl, Nat.le_refl _, by simp [Cx.upd, hb'], fun g o c el fz _ h => ⟨c, el, fz, h, fun _ => rfl⟩⟩
  refine hr.step (ef := ⟨.c (.sl (d, 0) 0 0), [((d, 0), some (.row e [] true))]⟩) hd [(d, 0)] (fun b' hb' => by rw [List.mem_singleton.1 hb']; exact hfr) (fun _ h => h) (fun _ h => .inl h) (Xg.refl _ _) (fun _ _ _ => rfl) rfl rfl rfl (fun b' hb' => hcmp b' (by simpa using hb')) ?_ ?_ ?_ (Li (e := e) (mu := true) (by rw [Y5, if_pos rfl])) (Mu (Nat.lt_of_lt_of_le (hd d rfl) hr.hN))
  ·intro b' bk' hb'
   by_cases e : b' = (d, 0)
   ·subst e
    rw [Y5, if_pos rfl] at hb'
    cases hb'
    exact .inr ⟨he, by simp, by simp [Cx.upd]⟩
   ·rw [Y5, if_neg e] at hb'
    exact .inl ⟨by simpa using e, hb', by simp [Cx.upd, e], fun _ _ _ => ⟨rfl, fun h => h⟩⟩
  ·intro b1 b2 g o g' o' h1 h2 h3 h4 hne
   rw [Y5] at h1 h2
   simp only [Cx.upd] at h3 h4
   by_cases e1 : b1 = (d, 0)
   ·rw [if_pos e1] at h3; cases h3
   ·by_cases e2 : b2 = (d, 0)
    ·rw [if_pos e2] at h4; cases h4
    ·rw [if_neg e1] at h1 h3; rw [if_neg e2] at h2 h4
     exact hr.inj b1 b2 g o g' o' h1 h2 h3 h4 hne
  ·intro b1 g o h1 h2
   rw [Y5] at h1
   simp only [Cx.upd] at h2
   by_cases e1 : b1 = (d, 0)
   ·rw [if_pos e1] at h2; cases h2
   ·rw [if_neg e1] at h1 h2
    exact hr.own b1 g o h1 h2
 ·cases h1
 ·rw [Nat.zero_add] at hrun' h2 h9
  rw [List.nil_append] at h9
  have hup : (cx.upd (d, 0) (some (w.heap.size, 0))).ι (d, 0) = some (w.heap.size, 0) := by simp [Cx.upd]
  refine Ut hrun' ⟨_, BP hr hd (b := (d, 0)) (hd d rfl) hfr h4 h5 h6 h7 ?_ ?_⟩
  ·refine ⟨he, hR.2.1, ?_⟩
   rw [hup]
   refine ⟨rfl, cur', el, (0, 0), cap, Y6 h4, fun _ => ⟨rfl, fun h => ?_⟩, (fun h => by cases h), h8, h2, h3, fun i r k p hi' hk' => ?_⟩
   ·have := (hr.A _ h).1; omega
   ·obtain ⟨u, hu, hp⟩ := hR.2.2 i r k p hi' hk'
    refine ⟨u, ?_, hp.keeps (fun _ h => h) (Xy h4)⟩
    rw [← h9, List.getElem?_take] at hu
    split at hu
    ·simpa using hu
    ·cases hu
  ·refine ⟨.inr rfl, fun bk hbk => ?_⟩
   rw [Y5, if_pos rfl] at hbk
   cases hbk
   refine ⟨_, cap, rfl, h2, h3, by simp [Bk.len], .inr ⟨w.heap.size, cur', el, (0, 0), hup, by simp, Y6 h4, ?_⟩⟩
   rw [h8]; simp [Bk.e]
end
theorem Px {t : TV} {b c : Qw} {x y : Option Bk} {o : Oper} {st : St} (b' : Qw) : (Ef.ap ⟨t, [(b, x), (c, y)]⟩ o st).h b' = if b' = b then x else if b' = c then y else st.h b' := by
 unfold St.h Ef.ap
 simp only [List.cons_append, List.nil_append, XZ]
 by_cases h : b' = b
 ·subst h
  rw [Z6.2 rfl, if_pos rfl]; rfl
 ·have h1 : VP b b' = false := by
   cases hb : VP b b' with
   | false => rfl
   | true => exact absurd (Z6.1 hb).symm h
  rw [h1, if_neg h]
  by_cases h2 : b' = c
  ·subst h2
   rw [if_pos rfl]
   simp only
   rw [Z6.2 rfl]; rfl
  ·have h3 : VP c b' = false := by
    cases hb : VP c b' with
    | false => rfl
    | true => exact absurd (Z6.1 hb).symm h2
   rw [if_neg h2]
   simp only
   rw [h3]
section
variable {E : En} {N : Nat} {P : Program} {T : Tb P} {ops : Array Oper} {o : Oper} {st : St} {d : Nat} {ty : Nat} {pos : String} {af : Array Edge} {gd : Option (Nat × Bool)} {cx : Cx} {a : Act} {w w' : World} {v : Value}
theorem DJ (hr : Xx E N cx st a w) (hd : ∀ d, o.dst = some d → d < N) {b c : Qw} (hb0 : b.1 < N) (hf : WA b st) (hc : ∃ bk, st.h c = some bk) {bk : Bk} {t : TV} {x : Option (Nat × Nat)}
  (hA : Xg cx.A w w') (hos : w'.os = w.os) (htp : w'.tape = w.tape) (hou : w'.output = w.output)
  (hother : ∀ g, (∀ q, cx.ι c ≠ some (g, q)) → g < w.heap.size → w'.heap[g]? = w.heap[g]?)
  (hx : ∀ g q, x = some (g, q) → (∃ q', cx.ι c = some (g, q')) ∧ g < w'.heap.size ∨ g = w.heap.size ∧ g < w'.heap.size)
  (hRB : RB (cx.upd b x) w' (Ef.ap ⟨t, [(b, some bk), (c, none)]⟩ o st).h b bk) (hRT : RT (cx.upd b x) w' (Ef.ap ⟨t, [(b, some bk), (c, none)]⟩ o st).h t v) :
  Xx E N (cx.upd b x) (Ef.ap ⟨t, [(b, some bk), (c, none)]⟩ o st) (a.put o.dst v) w' := by
 obtain ⟨bkc, hbc⟩ := hc
 have hne : c ≠ b := fun e => by rw [e, hf.1] at hbc; cases hbc
 have hoc : ∀ b' g q, b' ≠ c → st.h b' ≠ none → cx.ι b' = some (g, q) → ∀ q', cx.ι c ≠ some (g, q') := fun b' g q h1 h2 h3 q' h4 => hr.inj b' c g q g q' h2 (by rw [hbc]; simp) h3 h4 h1 rfl
 have hkb : ∀ b' g q, b' ≠ c → st.h b' ≠ none → cx.ι b' = some (g, q) → w'.heap[g]? = w.heap[g]? := fun b' g q h1 h2 h3 => hother g (hoc b' g q h1 h2 h3) (hr.own b' g q h2 h3).1
 refine hr.step (ef := ⟨t, [(b, some bk), (c, none)]⟩) hd [b] (fun b' hb' => by rw [List.mem_singleton.1 hb']; exact hf) (fun _ h => h) (fun _ h => .inl h) hA ?_ hos htp hou ?_ ?_ ?_ ?_ hRT (Mu (Nat.lt_of_lt_of_le hb0 hr.hN))
 ·intro g hg hM
  refine hother g (fun q hq => ?_) (Nat.lt_of_lt_of_le hg hr.sz)
  rcases (hr.own c g q (by rw [hbc]; simp) hq).2 with h | h
  ·omega
  ·exact hM h
 ·intro b' hb' bk' hbk
  have hb' : b' ≠ b := by simpa using hb'
  rw [Px, if_neg hb'] at hbk
  by_cases e : b' = c
  ·rw [if_pos e] at hbk; cases hbk
  ·rw [if_neg e] at hbk
   refine ⟨bk', hbk, rfl, Nat.le_refl _, by simp [Cx.upd, hb'], fun g q c' el fz h1 h2 => ⟨c', el, fz, ?_, fun _ => rfl⟩⟩
   rw [hkb b' g q e (by rw [hbk]; simp) h1]; exact h2
 ·intro b' bk' hbk
  by_cases e1 : b' = b
  ·subst e1
   rw [Px, if_pos rfl] at hbk
   cases hbk
   exact .inr hRB
  ·rw [Px, if_neg e1] at hbk
   by_cases e : b' = c
   ·rw [if_pos e] at hbk; cases hbk
   ·rw [if_neg e] at hbk
    exact .inl ⟨by simpa using e1, hbk, by simp [Cx.upd, e1], fun g q h1 => ⟨hkb b' g q e (by rw [hbk]; simp) h1, fun h => h⟩⟩
 ·intro b1 b2 g q g' q' h1 h2 h3 h4 hne'
  rw [Px] at h1 h2
  simp only [Cx.upd] at h3 h4
  have hnew : ∀ b2 g' q', b2 ≠ b → (if b2 = b then some bk else if b2 = c then none else st.h b2) ≠ none → cx.ι b2 = some (g', q') → ∀ g q, x = some (g, q) → g ≠ g' := by
   intro b2 g' q' e2 h2 h4 g q h3
   rw [if_neg e2] at h2
   have e3 : b2 ≠ c := fun e => by rw [if_pos e] at h2; exact h2 rfl
   rw [if_neg e3] at h2
   rcases hx g q h3 with ⟨⟨q2, h5⟩, h6⟩ | ⟨h5, h6⟩
   ·rintro rfl
    exact hoc b2 g q' e3 h2 h4 q2 h5
   ·have := (hr.own b2 g' q' h2 h4).1
    omega
  by_cases e1 : b1 = b <;> by_cases e2 : b2 = b
  ·exact absurd (e1.trans e2.symm) hne'
  ·rw [if_pos e1] at h3; rw [if_neg e2] at h4
   exact hnew b2 g' q' e2 h2 h4 g q h3
  ·rw [if_neg e1] at h3; rw [if_pos e2] at h4
   exact fun e => hnew b1 g q e1 h1 h3 g' q' h4 e.symm
  ·rw [if_neg e1] at h1 h3; rw [if_neg e2] at h2 h4
   by_cases e3 : b1 = c
   ·rw [if_pos e3] at h1; exact absurd rfl h1
   ·by_cases e4 : b2 = c
    ·rw [if_pos e4] at h2; exact absurd rfl h2
    ·rw [if_neg e3] at h1; rw [if_neg e4] at h2
     exact hr.inj b1 b2 g q g' q' h1 h2 h3 h4 hne'
 ·intro b1 g q h1 h2
  rw [Px] at h1
  simp only [Cx.upd] at h2
  by_cases e1 : b1 = b
  ·rw [if_pos e1] at h2
   rcases hx g q h2 with ⟨⟨q2, h5⟩, h6⟩ | ⟨h5, h6⟩
   ·exact ⟨h6, (hr.own c g q2 (by rw [hbc]; simp) h5).2⟩
   ·exact ⟨h6, .inl (by have := hr.sz; omega)⟩
  ·rw [if_neg e1] at h1 h2
   by_cases e3 : b1 = c
   ·rw [if_pos e3] at h1; exact absurd rfl h1
   ·rw [if_neg e3] at h1
    obtain ⟨h3, h4⟩ := hr.own b1 g q h1 h2
    exact ⟨Nat.lt_of_lt_of_le h3 hA.sz, h4⟩
theorem Q9t {x y : Operand} {t tx el : TypeId} {te tt : TE} {e n : Nat} {b : Qw} {rows rows' rows2 : List (List PV)} {rb : List Qw} (hx : st.ev x = .c (.sl b 0 n)) (hcx : Zf x = true) (hb : st.h b = some (.row e rows true)) (hn : rows.length = n)
  (ht : Zn T.ty t = some tt) (hk : tt.kd = .slice el) (hel : Zn T.ty el = some te) (hes : te.size = e) (hz : te.zero.cells.size = e)
  (hsrc : Q5t E N P ops ⟨some d, .call { callee := .builtin .append, args := #[x, y], argTypes := #[t, tx] }, ty, pos, af, gd⟩ st rb tx e y rows') (h2 : rows ++ rows' = rows2) {n2 : Nat} (hn2 : n + rows'.length = n2) (hlen : n2 ≤ 140737488355328) (hby : n2 * te.bytes ≤ 140737488355328) :
  ZC E N P ops ⟨some d, .call { callee := .builtin .append, args := #[x, y], argTypes := #[t, tx] }, ty, pos, af, gd⟩ st ⟨b :: rb, [(d, 0)]⟩ ⟨.c (.sl (d, 0) 0 n2), [((d, 0), some (.row e rows2 true)), (b, none)]⟩ := by
 intro st' ha hf hd cx a w Q hr
 have ha' : Agree ops ⟨some d, .call { callee := .builtin .append, args := #[x, y], argTypes := #[t, tx] }, ty, pos, af, gd⟩ ⟨rb, []⟩ st st' := ⟨ha.1, fun b' hb' => ha.2 b' (List.mem_cons_of_mem _ hb')⟩
 obtain ⟨-, h4⟩ := Pt hx hcx ha (by simp [Op.operands, Call.operands]) hr
 have hb' : st'.h b = some (.row e rows true) := by rw [ha.2 b (by simp)]; exact hb
 obtain ⟨a', cap0, h5, h6, h7, h8, h9⟩ := h4 _ hb'
 obtain ⟨he, hre, hrb⟩ := hr.bl b _ hb'
 obtain ⟨us, hR, hS⟩ := hsrc st' cx a w ha' hr
 have hfr := hf (d, 0) (by simp)
 subst h2
 subst hn2
 subst hn
 obtain ⟨i, hi1, hi2, hi3, hi4⟩ := Mv hel
 obtain ⟨bc, hbc⟩ := Y4 (P := P) (d := d) (ty := ty) (pos := pos) (af := af) (gd := gd) (w := w) (b := .append) (args := #[x, y]) (ats := #[t, tx]) (a := a)
 -- the elder cells
 have hown : ∃ xs, AK w cx.A e rows xs ∧ ((∃ a, Value.slice a' rows.length cap0 = .slice a 0 0 ∧ rows.length = 0) ∨ ∃ g cap cur el', Value.slice a' rows.length cap0 = .slice (some ⟨g, 0, none⟩) rows.length cap ∧ w.heap[g]? = some (.cells cur el' (0, 0)) ∧ rows.length ≤ cap ∧ cap ≤ maxLen ∧ cur.size = cap * e ∧ cur.toList.take (rows.length * e) = xs ∧ 0 < cap) ∧
   ∀ g, a' = some ⟨g, 0, none⟩ → 0 < cap0 → cx.ι b = some (g, 0) ∧ ¬ cx.A g := by
  by_cases hc0 : cap0 = 0
  ·have hr0 : rows = [] := List.eq_nil_of_length_eq_zero (by omega)
   subst hr0
   subst hc0
   exact ⟨[], AK.nil _ _ _, .inl ⟨a', rfl, rfl⟩, fun g _ h => by omega⟩
  ·rcases h9 with h9 | ⟨g, c, el', fz, h10, h11, h12, h13⟩
   ·exact absurd h9 hc0
   ·rw [h10] at hrb
    obtain ⟨-, c', el2, fz', capR, h14, h15, h16, h17, h18, h19, h20⟩ := hrb
    rw [h12] at h14
    cases h14
    obtain ⟨rfl, hnA⟩ := h15 rfl
    simp only [Bk.e, Nat.zero_mul, Nat.zero_add] at h11 h13
    replace h13 := h13 he
    refine ⟨c.toList.take (rows.length * e), ⟨?_, hre, fun i r k p hi hk => ?_⟩, .inr ⟨g, cap0, c, el', by rw [h11], h12, h6, h7, h13, rfl, by omega⟩, fun g' hg' _ => ?_⟩
    ·have hcl : c.toList.length = cap0 * e := by rw [Array.length_toList, h13]
     rw [List.length_take, hcl]
     have : rows.length * e ≤ cap0 * e := Nat.mul_le_mul_right e h6
     omega
    ·obtain ⟨cv, hcv, hp⟩ := h20 i r k p hi hk
     refine ⟨cv, ?_, hp⟩
     have hil := (List.getElem?_eq_some_iff.1 hi).1
     have hkl := (List.getElem?_eq_some_iff.1 hk).1
     have hrl := hre r (List.mem_of_getElem? hi)
     have hlt : i * e + k < rows.length * e := by
      have : (i + 1) * e ≤ rows.length * e := Nat.mul_le_mul_right e hil
      rw [Nat.add_mul] at this
      omega
     rw [List.getElem?_take, if_pos hlt, Array.getElem?_toList]; exact hcv
    ·rw [h11] at hg'
     cases hg'
     exact ⟨h10, hnA⟩
 obtain ⟨xs, hxs, hal, hιb⟩ := hown
 obtain ⟨v', w', hrun, hcase⟩ := Pw (P := P) w t tx ty el i te.zero e te.bytes (KN ht hk) hi1 hi4 (by rw [hi2, hes]) hi3 hz (.slice a' rows.length cap0) rows.length xs hxs.1 hal (a.eval y) rows'.length us hS (by unfold maxLen; omega) hby
 have hrun' : (execOp a.eval ⟨some d, .call { callee := .builtin .append, args := #[x, y], argTypes := #[t, tx] }, ty, pos, af, gd⟩).run P w = .ok (.value v') w' := by
  rw [hbc]
  simp only [List.map_toArray, List.map_cons, List.map_nil, h5, builtin, Sem.run_bind, hrun, Result.andThen_ok, Sem.run_pure]
 have hR2 := hxs.app hR
 have hle : (rows ++ rows').length = rows.length + rows'.length := List.length_append
 have hat : ∀ (cur' : Array Value), cur'.toList.take ((rows.length + rows'.length) * e) = xs ++ us → ∀ (i : Nat) (r : List PV) (k : Nat) (p : PV), (rows ++ rows')[i]? = some r → r[k]? = some p → ∃ cv, cur'[i * e + k]? = some cv ∧ RP w cx.A p cv := by
  intro cur' h i r k p hi' hk'
  obtain ⟨u, hu, hp⟩ := hR2.2.2 i r k p hi' hk'
  refine ⟨u, ?_, hp⟩
  rw [← h, List.getElem?_take] at hu
  split at hu
  ·simpa using hu
  ·cases hu
 have hno : ∀ x, (Ef.ap ⟨.c (.sl (d, 0) 0 (rows.length + rows'.length)), [((d, 0), some (.row e (rows ++ rows') true)), (b, none)]⟩ ⟨some d, .call { callee := .builtin .append, args := #[x, y], argTypes := #[t, tx] }, ty, pos, af, gd⟩ st').h (d, 0) = some (.row e (rows ++ rows') true) := fun x => by rw [Px, if_pos rfl]
 have hnil : (cx.upd (d, 0) none).ι (d, 0) = none := by simp [Cx.upd]
 have hsm : ∀ y, (cx.upd (d, 0) (some y)).ι (d, 0) = some y := fun y => by simp [Cx.upd]
 refine Ut hrun' ?_
 rcases hcase with ⟨a2, rfl, rfl, h0⟩ | ⟨g, cap, cur, el', cur', h1, h2, rfl, h3, h10, rfl, h11, h12, h13, h14⟩ | ⟨cap, cur', rfl, h2, h3, h10, h11, h12, h13, h14, h15⟩
 ·have hrows : rows ++ rows' = [] := List.eq_nil_of_length_eq_zero (by omega)
  refine ⟨cx.upd (d, 0) none, DJ hr hd (b := (d, 0)) (hd d rfl) hfr ⟨_, hb'⟩ (Xg.refl _ _) rfl rfl rfl (fun _ _ _ => rfl) (fun g q h => by cases h) ⟨he, by rw [hrows]; simp, by rw [hnil]; exact hrows⟩ ?_⟩
  have := hno x
  rw [hrows, h0] at this ⊢
  exact Li this
 ·cases h1
  obtain ⟨hι, hnA⟩ := hιb g rfl h14
  have hk2 : Xg cx.A w (w.setRow g cur') := ⟨by simp, fun g' hA _ => setRow_other w g g' cur' (fun e => hnA (e ▸ hA)), Iw h2 h11⟩
  refine ⟨cx.upd (d, 0) (some (g, 0)), DJ hr hd (b := (d, 0)) (hd d rfl) hfr ⟨_, hb'⟩ hk2 rfl rfl rfl (fun g' h _ => setRow_other w g g' cur' (fun e => h 0 (by rw [e]; exact hι))) (fun g' q h => by cases h; exact .inl ⟨⟨0, hι⟩, by simpa using (Array.getElem?_eq_some_iff.1 h2).1⟩) ⟨he, hR2.2.1, ?_⟩ ⟨.inr rfl, fun bk hbk => ?_⟩⟩
  ·rw [hsm]
   exact ⟨rfl, cur', el', (0, 0), cap0, setRow_heap w g cur cur' el' _ h2, fun _ => ⟨rfl, hnA⟩, (fun h => by cases h), by rw [h11, h12], by rw [hle]; exact h3, h10, fun i r k p hi' hk' => let ⟨cv, hc, hp⟩ := hat cur' h13 i r k p hi' hk'; ⟨cv, hc, hp.keeps (fun _ h => h) hk2⟩⟩
  ·rw [hno x] at hbk
   cases hbk
   exact ⟨_, _, rfl, h3, h10, by simp [Bk.len], .inr ⟨g, cur', el', (0, 0), hsm _, by simp, setRow_heap w g cur cur' el' _ h2, fun _ => by simp only [Bk.e]; rw [h11, h12, Nat.zero_add]⟩⟩
 ·refine ⟨cx.upd (d, 0) (some (w.heap.size, 0)), DJ hr hd (b := (d, 0)) (hd d rfl) hfr ⟨_, hb'⟩ (Xy h10) h11 h12 h13 (fun g' _ h => CB h10 h) (fun g' q h => by cases h; exact .inr ⟨rfl, by rw [h10]; simp⟩) ⟨he, hR2.2.1, ?_⟩ ⟨.inr rfl, fun bk hbk => ?_⟩⟩
  ·rw [hsm]
   exact ⟨rfl, cur', el, (0, 0), cap, Y6 h10, fun _ => ⟨rfl, fun h => by have := (hr.A _ h).1; omega⟩, (fun h => by cases h), h14, by rw [hle]; exact h2, h3, fun i r k p hi' hk' => let ⟨cv, hc, hp⟩ := hat cur' h15 i r k p hi' hk'; ⟨cv, hc, hp.keeps (fun _ h => h) (Xy h10)⟩⟩
  ·rw [hno x] at hbk
   cases hbk
   exact ⟨_, _, rfl, h2, h3, by simp [Bk.len], .inr ⟨w.heap.size, cur', el, (0, 0), hsm _, by simp, Y6 h10, fun _ => by simp only [Bk.e]; rw [h14, Nat.zero_add]⟩⟩
theorem SA {x y : Operand} {t : TypeId} {te : TE} {b : Qw} {i k e : Nat} {rows rows' : List (List PV)} {r r' ps : List PV} {v : TV} {dst : Option Nat} (hx : st.ev x = .c (.ptr b i k)) (hb : st.h b = some (.row e rows true)) (hi : rows[i]? = some r) (hv : st.ev y = v) (hk : v.known = true) (hps : v.cells = ps.map .p)
  (ht : Zn T.ty t = some te) (hsz : ps.length = te.size) (hin : k + ps.length ≤ e) (hr' : setAt r k ps = r') (hrows : rows.set i r' = rows') (hcx : Zf x = true) (hcy : Zf y = true) :
  ZC E N P ops ⟨dst, .store t x y, ty, pos, af, gd⟩ st ⟨[b], []⟩ ⟨.c .any, [(b, some (.row e rows' true))]⟩ := by
 intro st' ha hf hd cx a w Q hr
 have he := hr.ev hcy
 rw [JK ha (by simp [Op.operands]), hv] at he
 have hrl := FW hk he
 rw [hps] at hrl
 obtain ⟨-, h4⟩ := Pt hx hcx ha (by simp [Op.operands]) hr
 have hb' : st'.h b = some (.row e rows true) := by rw [ha.2 b (by simp)]; exact hb
 obtain ⟨g, q, h5, h6⟩ := h4 _ hb'
 have hbl := hr.bl b _ hb'
 obtain ⟨h7, h8, h9⟩ := hbl
 rw [h5] at h9
 obtain ⟨rfl, c, el, fz, capR, h10, h11, h12, h13, h14, h15, h16⟩ := h9
 obtain ⟨rfl, hnA⟩ := h11 rfl
 have hil := (List.getElem?_eq_some_iff.1 hi).1
 have hrl2 := h8 r (List.mem_of_getElem? hi)
 have h6' : a.eval x = .pointer (some ⟨g, i * e + k, none⟩) := by simpa [Bk.e] using h6
 have hcl : (a.eval y).cells.size = ps.length := by have := hrl.1; simpa using this
 have hbig : i * e + e ≤ c.size := by
  have : (i + 1) * e ≤ capR * e := Nat.mul_le_mul_right e (by omega)
  rw [Nat.add_mul] at this
  omega
 have hrun := Gn (w := w) (g := g) (q := i * e + k) (u := a.eval y) ht (by rw [hcl, hsz]) h10 (by omega) (Q9r hrl)
 obtain ⟨c2, hc2⟩ : ∃ c2, c2 = (c.toList.take (i * e + k) ++ (a.eval y).cells.toList ++ c.toList.drop (i * e + k + (a.eval y).cells.size)).toArray := ⟨_, rfl⟩
 rw [← hc2] at hrun
 have hlen : c2.size = c.size := by rw [hc2]; simp; omega
 refine upon_skip (w' := w.setRow g c2) (by simp only [execOp, h6', Sem.run_bind, Instr.storeAt, Instr.sureAddr, Sem.run_pure, Result.andThen_ok, hrun]) ⟨cx, ?_⟩
 have hkeep : Xg cx.A w (w.setRow g c2) := ⟨by simp, fun g' hA _ => setRow_other w g g' c2 (fun e => hnA (e ▸ hA)), Iw h10 hlen⟩
 have hr'l : r'.length = e := by rw [← hr', FX r k ps (by omega)]; exact hrl2
 refine Lh (t := .c .any) (bk' := .row e rows' true) hr hd hb' rfl (by simp [Bk.len, ← hrows]) h5 hnA h10 rfl hlen ⟨h7, ?_, ?_⟩ ⟨.inl rfl, trivial⟩
 ·intro r2 hr2
  rw [← hrows] at hr2
  rcases List.mem_or_eq_of_mem_set hr2 with h | h
  ·exact h8 r2 h
  ·rw [h]; exact hr'l
 ·rw [h5]
  refine ⟨rfl, c2, el, (0, 0), capR, setRow_heap w g c c2 el _ h10, fun _ => ⟨rfl, hnA⟩, (fun h => by cases h), by rw [hlen]; exact h13, by rw [← hrows]; simpa using h14, h15, fun i2 r2 k2 p2 hi2 hk2 => ?_⟩
  have hidx : ∀ j, c2[j]? = if j < i * e + k ∨ i * e + k + ps.length ≤ j then c[j]? else (a.eval y).cells[j - (i * e + k)]? := by
   intro j
   have h17 := CC c.toList (i * e + k) (a.eval y).cells.toList (by simp; omega)
   rw [hc2, show i * e + k + (a.eval y).cells.size = i * e + k + (a.eval y).cells.toList.length by simp, ← h17, List.getElem?_toArray, CE _ _ _ (by simp; omega)]
   simp only [Array.length_toList, hcl, Array.getElem?_toList]
  have hk2l : k2 < e := by
   have h1 := (List.getElem?_eq_some_iff.1 hk2).1
   have : r2.length = e := by
    rw [← hrows] at hi2
    rcases List.mem_or_eq_of_mem_set (List.mem_of_getElem? hi2) with h | h
    ·exact h8 r2 h
    ·rw [h]; exact hr'l
   omega
  rw [← hrows, List.getElem?_set] at hi2
  rw [hidx]
  by_cases e1 : i = i2
  ·rw [if_pos e1, if_pos hil] at hi2
   cases hi2
   subst e1
   rw [← hr', CE r k ps (by omega)] at hk2
   by_cases h17 : k2 < k ∨ k + ps.length ≤ k2
   ·rw [if_pos h17] at hk2
    rw [if_pos (by omega)]
    obtain ⟨cv, h18, h19⟩ := h16 i r k2 p2 hi hk2
    exact ⟨cv, h18, h19.keeps (fun _ h => h) hkeep⟩
   ·rw [if_neg h17] at hk2
    rw [if_neg (by omega)]
    obtain ⟨u, h18, h19, h20⟩ := hrl.2 (k2 - k) (.p p2) (by rw [List.getElem?_map, hk2]; rfl)
    refine ⟨u, ?_, RP.keeps h20 (fun _ h => h) hkeep⟩
    rw [← h18]
    congr 1
    omega
  ·rw [if_neg e1] at hi2
   have hi2l := (List.getElem?_eq_some_iff.1 hi2).1
   have hout : i2 * e + k2 < i * e + k ∨ i * e + k + ps.length ≤ i2 * e + k2 := by
    rcases Nat.lt_or_gt_of_ne e1 with h | h
    ·right
     have : (i + 1) * e ≤ i2 * e := Nat.mul_le_mul_right e h
     rw [Nat.add_mul] at this
     omega
    ·left
     have : (i2 + 1) * e ≤ i * e := Nat.mul_le_mul_right e h
     rw [Nat.add_mul] at this
     omega
   rw [if_pos hout]
   obtain ⟨cv, h18, h19⟩ := h16 i2 r2 k2 p2 hi2 hk2
   exact ⟨cv, h18, h19.keeps (fun _ h => h) hkeep⟩
end
section
variable {E : En} {N : Nat} {P : Program} {Q : Exit → St → Prop} {st : St}
def AW (E : En) (N : Nat) (P : Program) (c : Code) (Q : Exit → St → Prop) (st : St) : Prop :=
 ∀ cx a w, Xx E N cx st a w → c.wp P (fun e a' w' => ∃ st' cx', Q e st' ∧ Xx E N cx' st' a' w') a w
def O6 (Q : Exit → St → Prop) (k : St → Prop) : Exit → St → Prop
 | .normal, st => k st
 | e, st => Q e st
def blkQ (id : Nat) (Q : Exit → St → Prop) : Exit → St → Prop
 | .exit i, st => match Nat.beq i id with
  | true => Q .normal st
  | false => Q (.exit i) st
 | e, st => Q e st
theorem Q9u {x y : Code} (h : AW E N P x (O6 Q (AW E N P y Q)) st) : AW E N P (.seq x y) Q st := by
 intro cx a w hr
 refine wp_seq (wp_mono (h cx a w hr) ?_)
 rintro e a' w' ⟨st', cx', h1, h2⟩
 cases e with
 | normal => exact h1 cx' a' w' h2
 | _ => exact ⟨st', cx', h1, h2⟩
theorem WX (h : Q .normal st) : AW E N P .skip Q st := fun cx a w hr => wp_skip ⟨st, cx, h, hr⟩
theorem Qiu {l : Nat} (h : Q .normal st) : AW E N P (.label l) Q st := fun cx a w hr => wp_label ⟨st, cx, h, hr⟩
theorem Qrg {id : Nat} (h : Q (.exit id) st) : AW E N P (.exit id) Q st := fun cx a w hr => wp_exit ⟨st, cx, h, hr⟩
theorem AU (h : Q .ret st) : AW E N P .ret Q st := fun cx a w hr => wp_ret ⟨st, cx, h, hr⟩
theorem Qrh {c : Operand} {b : Bool} {cx : Cx} {a : Act} {w : World} (hb : st.ev c = .c (.p (.v (.bool b)))) (hc : Zf c = true) (hr : Xx E N cx st a w) : a.eval c = .bool b := by
 have := hr.ev hc
 rw [hb] at this
 have h2 := this.2
 revert h2
 generalize a.eval c = z
 intro h2
 cases h2 with | v _ _ => rfl
theorem Q16 {c : Operand} {x y : Code} {b : Bool} (hb : st.ev c = .c (.p (.v (.bool b)))) (hc : Zf c = true) (ht : b = true → AW E N P x Q st) (hf : b = false → AW E N P y Q st) : AW E N P (.cond c x y) Q st :=
 fun cx a w hr => wp_cond_split (Qrh hb hc hr) (fun h => ht h cx a w hr) (fun h => hf h cx a w hr)
theorem Qeu {c : Operand} {x y : Code} (hb : st.ev c = .c (.p (.v (.bool true)))) (hc : Zf c = true) (ht : AW E N P x Q st) : AW E N P (.cond c x y) Q st :=
 Q16 hb hc (fun _ => ht) (fun h => by cases h)
theorem Qev {c : Operand} {x y : Code} (hb : st.ev c = .c (.p (.v (.bool false)))) (hc : Zf c = true) (hf : AW E N P y Q st) : AW E N P (.cond c x y) Q st :=
 Q16 hb hc (fun h => by cases h) (fun _ => hf)
theorem Qiv {id : Nat} {c : Code} (h : AW E N P c (blkQ id Q) st) : AW E N P (.block id c) Q st := by
 intro cx a w hr
 refine wp_block (wp_mono (h cx a w hr) ?_)
 rintro e a' w' ⟨st', cx', h1, h2⟩
 cases e with
 | exit i =>
  simp only [Exit.inBlock]
  simp only [blkQ] at h1
  by_cases hi : i = id
  ·rw [if_pos hi]
   have hb : Nat.beq i id = true := by rw [hi]; simp
   rw [hb] at h1; exact ⟨st', cx', h1, h2⟩
  ·rw [if_neg hi]
   have hb : Nat.beq i id = false := by
    cases hx : Nat.beq i id with
    | false => rfl
    | true => exact absurd (Nat.eq_of_beq_eq_true hx) hi
   rw [hb] at h1; exact ⟨st', cx', h1, h2⟩
 | _ => exact ⟨st', cx', h1, h2⟩
def Py (b : Qw) (st : St) : Bool := st.fr.all (fun x => !Q5i x.2.ment b) && st.H.all fun x => match x.2 with
 | none => true
 | some bk => !VP x.1 b && !Q5i bk.ment b
theorem O7 {b : Qw} (h : Py b st = true) : WA b st := by
 simp only [Py, Bool.and_eq_true, List.all_eq_true] at h
 obtain ⟨h1, h2⟩ := h
 refine ⟨?_, fun s hm => ?_, fun b' bk hb hm => ?_⟩
 ·unfold St.h
  cases hl : XZ st.H b with
  | none => rfl
  | some x =>
   have := h2 _ (YH hl)
   cases x with
   | none => rfl
   | some bk => simp [Z6.2 rfl] at this
 ·unfold St.g at hm
  cases hl : Zn st.fr s with
  | none => rw [hl] at hm; simp [TV.ment, CV.ment] at hm
  | some t =>
   rw [hl, Option.getD_some] at hm
   have := h1 _ (Q0y hl)
   simp only [Bool.not_eq_true'] at this
   rw [HG.2 hm] at this
   cases this
 ·unfold St.h at hb
  cases hl : XZ st.H b' with
  | none => rw [hl] at hb; cases hb
  | some x =>
   rw [hl] at hb
   simp only [Option.getD_some] at hb
   subst hb
   have := h2 _ (YH hl)
   simp only [Bool.and_eq_true, Bool.not_eq_true'] at this
   rw [HG.2 hm] at this
   cases this.2
def Ad (st : St) (acc : List (Fp × Ef)) : Bool := acc.all fun x => x.1.al.all fun b => Py b st
theorem O8 {acc : List (Fp × Ef)} (h : Ad st acc = true) : ∀ x ∈ acc, ∀ b ∈ x.1.al, WA b st := fun x hx b hb => O7 (List.all_eq_true.1 (List.all_eq_true.1 h x hx) b hb)
theorem Qcr {id : Nat} {l : List Oper} (hm : P.follows .mixedOrders = true) (hS : Qig N l = true) (h : Ac E N P l.toArray l [] st fun acc st' => Q9h l acc.reverse = true ∧ Ad st acc = true ∧ Q .normal st') : AW E N P (.region id l.toArray true) Q st := by
 intro cx a w hr
 obtain ⟨es, st', h1, h2⟩ := Qcm h
 simp only [List.append_nil, List.reverse_reverse] at h2
 obtain ⟨h3, h4, h5⟩ := h2
 refine wp_mono (Q9j hm hS h3 h1 (fun i f ef hi b hb => O8 h4 (f, ef) (by simpa using List.mem_of_getElem? hi) b hb) hr) ?_
 rintro e a' w' ⟨rfl, cx', h6⟩
 exact ⟨st', cx', h5, h6⟩
theorem P8 {id : Nat} {l : List Oper} (hN : Q9i N l = true) (h : Ac E N P l.toArray l [] st fun acc st' => Q0z acc.reverse = true ∧ Ad st acc = true ∧ Q .normal st') : AW E N P (.region id l.toArray false) Q st := by
 intro cx a w hr
 obtain ⟨es, st', h1, h2⟩ := Qcm h
 simp only [List.append_nil, List.reverse_reverse] at h2
 obtain ⟨h3, h4, h5⟩ := h2
 refine wp_mono (Q5k hN h3 h1 (fun i f ef hi b hb => O8 h4 (f, ef) (by simpa using List.mem_of_getElem? hi) b hb) hr) ?_
 rintro e a' w' ⟨rfl, cx', h6⟩
 exact ⟨st', cx', h5, h6⟩
def CV.ren (σ : List (Qw × Qw)) : CV → CV
 | .ptr b i k => match XZ σ b with
  | some b' => .ptr b' i k
  | none => .any
 | .sl b off n => match XZ σ b with
  | some b' => .sl b' off n
  | none => .any
 | .mp b => match XZ σ b with
  | some b' => .mp b'
  | none => .any
 | c => c
def TV.ren1 (σ : List (Qw × Qw)) : TV → TV
 | .c x => .c (x.ren σ)
 | .agg cs => .agg (cs.map (CV.ren σ))
 | .tup _ => .c .any
def Bk.ren (σ : List (Qw × Qw)) : Bk → Bk
 | .row e rows mu => .row e rows mu
 | .box cs f => .box (cs.map (CV.ren σ)) f
 | .map ks => .map ks
def St.norm (ks : List Nat) (σ : List (Qw × Qw)) (st : St) : St := ⟨ks.map fun s => (s, (st.g s).ren1 σ), σ.map fun x => (x.2, (st.h x.1).map (Bk.ren σ))⟩
def Q5v : List Qw → Bool
 | [] => true
 | a :: r => !Q5i r a && Q5v r
theorem Qcs {α : Type} {l : List (Qw × α)} (h : Q5v (l.map (·.1)) = true) {b : Qw} {x : α} (hm : (b, x) ∈ l) : XZ l b = some x := by
 induction l with
 | nil => cases hm
 | cons y r ih =>
  obtain ⟨c, z⟩ := y
  simp only [List.map_cons, Q5v, Bool.and_eq_true, Bool.not_eq_true'] at h
  rcases List.mem_cons.1 hm with e | hm
  ·cases e; simp only [XZ]; rw [Z6.2 rfl]
  ·simp only [XZ]
   have : VP c b = false := by
    cases hb : VP c b with
    | false => rfl
    | true =>
     have e := Z6.1 hb
     subst e
     rw [HG.2 (List.mem_map.2 ⟨_, hm, rfl⟩)] at h
     cases h.1
   rw [this]
   exact ih h.2 hm
def okS (σ : List (Qw × Qw)) : Bool := Q5v (σ.map (·.1)) && Q5v (σ.map (·.2)) && σ.all fun x => !(VP x.2 K5 || Nat.ble 65537 x.2.1) || VP x.1 x.2
theorem Xx.norm {cx : Cx} {a : Act} {w : World} {ks : List Nat} {σ : List (Qw × Qw)} (hσ : okS σ = true) (hr : Xx E N cx st a w) : ∃ cx', Xx E N cx' (st.norm ks σ) a w := by
 simp only [okS, Bool.and_eq_true] at hσ
 obtain ⟨⟨h1, h2⟩, hp⟩ := hσ
 -- the elder name of a new one
 have hback : ∃ β : Qw → Option Qw, (∀ b b', (b, b') ∈ σ → β b' = some b) ∧ ∀ b' b, β b' = some b → (b, b') ∈ σ := by
  refine ⟨fun b' => XZ (σ.map fun x => (x.2, x.1)) b', fun b b' hm => Qcs (by rw [List.map_map]; exact h2) (List.mem_map.2 ⟨(b, b'), hm, rfl⟩), fun b' b hb => ?_⟩
  have := YH hb
  rw [List.mem_map] at this
  obtain ⟨x, hx, e⟩ := this
  cases e
  exact hx
 obtain ⟨β, hβ1, hβ2⟩ := hback
 have hnh : ∀ b' bk', (st.norm ks σ).h b' = some bk' → ∃ b bk, β b' = some b ∧ st.h b = some bk ∧ bk' = bk.ren σ ∧ (b, b') ∈ σ := by
  intro b' bk' hb
  unfold St.h St.norm at hb
  cases hl : XZ (σ.map fun x => (x.2, (st.h x.1).map (Bk.ren σ))) b' with
  | none => rw [hl] at hb; cases hb
  | some y =>
   rw [hl] at hb
   simp only [Option.getD_some] at hb
   subst hb
   have := YH hl
   rw [List.mem_map] at this
   obtain ⟨⟨b, b2⟩, hx, e⟩ := this
   simp only [Prod.mk.injEq] at e
   obtain ⟨rfl, e2⟩ := e
   rw [Option.map_eq_some_iff] at e2
   obtain ⟨bk, h3, h4⟩ := e2
   exact ⟨b, bk, hβ1 b b2 hx, h3, h4.symm, hx⟩
 have hlk : ∀ b b', (b, b') ∈ σ → XZ σ b = some b' := fun b b' hm => Qcs h1 hm
 have hre : ∀ bk : Bk, (bk.ren σ).e = bk.e ∧ (bk.ren σ).len = bk.len := fun bk => by cases bk <;> exact ⟨rfl, rfl⟩
 let cx' : Cx := ⟨fun b' => if Q5g b' then cx.ι b' else (β b').bind cx.ι, cx.A⟩
 have hpin : ∀ b b', (b, b') ∈ σ → Q5g b' → b = b' := by
  intro b b' hm e
  have := List.all_eq_true.1 hp (b, b') hm
  have e2 : (VP b' K5 || Nat.ble 65537 b'.1) = true := by
   rcases e with e | e
   ·rw [Z6.2 e]; rfl
   ·rw [Nat.ble_eq_true_of_le e]; exact Bool.or_true _
  simp only [e2, Bool.not_true, Bool.false_or] at this
  exact Z6.1 this
 have hι : ∀ b b', β b' = some b → cx'.ι b' = cx.ι b := fun b b' h => by
  show (if Q5g b' then cx.ι b' else (β b').bind cx.ι) = _
  by_cases e : Q5g b'
  ·rw [if_pos e, hpin b b' (hβ2 b' b h) e]
  ·rw [if_neg e, h]; rfl
 have hpi : ∀ b, Q5g b → cx'.ι b = cx.ι b := fun b hb => if_pos hb
 have hRC : ∀ (c : CV) (v : Value), RC cx w st.h c v → RC cx' w (st.norm ks σ).h (c.ren σ) v := by
  intro c v hc
  cases c with
  | any => trivial
  | p x => exact hc
  | ep row k => exact hc
  | ptr b i k =>
   simp only [CV.ren]
   cases hl : XZ σ b with
   | none => trivial
   | some b' =>
    intro bk' hbk
    obtain ⟨b2, bk, h3, h4, rfl, h5⟩ := hnh b' bk' hbk
    have hm := YH hl
    have : β b' = some b := hβ1 b b' hm
    rw [this] at h3
    cases h3
    obtain ⟨g, o, h6, h7⟩ := hc bk h4
    exact ⟨g, o, by rw [hι b b' this]; exact h6, by rw [(hre bk).1]; exact h7⟩
  | sl b off n =>
   simp only [CV.ren]
   cases hl : XZ σ b with
   | none => trivial
   | some b' =>
    intro bk' hbk
    obtain ⟨b2, bk, h3, h4, rfl, h5⟩ := hnh b' bk' hbk
    have hm := YH hl
    have : β b' = some b := hβ1 b b' hm
    rw [this] at h3
    cases h3
    obtain ⟨a', cap, h6, h7, h8, h9, h10⟩ := hc bk h4
    refine ⟨a', cap, h6, h7, h8, by rw [(hre bk).2]; exact h9, ?_⟩
    rw [(hre bk).1, hι b b' this]
    exact h10
  | mp b =>
   simp only [CV.ren]
   cases hl : XZ σ b with
   | none => trivial
   | some b' =>
    intro bk' hbk
    obtain ⟨b2, bk, h3, h4, rfl, h5⟩ := hnh b' bk' hbk
    have hm := YH hl
    have : β b' = some b := hβ1 b b' hm
    rw [this] at h3
    cases h3
    obtain ⟨g, h6, h7⟩ := hc bk h4
    exact ⟨g, by rw [hι b b' this]; exact h6, h7⟩
 have hone : ∀ (c : CV) (v : Value), (c = .any ∨ v.oneCell' = true) → (c.ren σ = .any ∨ v.oneCell' = true) := by
  rintro c v (rfl | h)
  ·exact .inl rfl
  ·exact .inr h
 have hRL : ∀ (cs : List CV) (vs : Array Value), RL cx w st.h cs vs → RL cx' w (st.norm ks σ).h (cs.map (CV.ren σ)) vs := by
  intro cs vs h
  refine ⟨by rw [h.1]; simp, fun i c hc => ?_⟩
  rw [List.getElem?_map, Option.map_eq_some_iff] at hc
  obtain ⟨c0, hc0, rfl⟩ := hc
  obtain ⟨u, hu, h3, h4⟩ := h.2 i c0 hc0
  exact ⟨u, hu, h3, hRC c0 u h4⟩
 refine ⟨cx', hr.defers, hr.size, fun s => ?_, fun b' bk' hb => ?_, fun b b' g o g' o' hb hb' hi hi' hne => ?_, fun b g o hb hi => ?_, hr.A, hr.A0, hr.kept, hr.sz, hr.os, hr.tape, hr.output, hr.hN, fun b hb => (hpi b hb).trans (hr.pin b hb), hr.cz⟩
 ·have hg : (st.norm ks σ).g s = (st.g s).ren1 σ ∨ (st.norm ks σ).g s = .c .any := by
   unfold St.g St.norm
   cases hl : Zn (ks.map fun s => (s, (st.g s).ren1 σ)) s with
   | none => exact .inr rfl
   | some y =>
    have := Q0y hl
    rw [List.mem_map] at this
    obtain ⟨s', _, e⟩ := this
    cases e
    exact .inl rfl
  rcases hg with hg | hg
  ·rw [hg]
   have := hr.fr s
   revert this
   cases st.g s with
   | c x => exact fun h => ⟨hone x _ h.1, hRC x _ h.2⟩
   | agg cs => rintro ⟨vs, h3, h4⟩; exact ⟨vs, h3, hRL _ _ h4⟩
   | tup ts => exact fun _ => ⟨.inl rfl, trivial⟩
  ·rw [hg]; exact ⟨.inl rfl, trivial⟩
 ·obtain ⟨b, bk, h3, h4, rfl, h5⟩ := hnh b' bk' hb
  have := hr.bl b bk h4
  cases bk with
  | row e rows mu =>
   obtain ⟨h6, h7, h8⟩ := this
   exact ⟨h6, h7, by rw [hι b b' h3]; exact h8⟩
  | box cs f =>
   obtain ⟨g, o, c, el, h6, h7, h8, h9, h10, hfm⟩ := this
   refine ⟨g, o, c, el, by rw [hι b b' h3]; exact h6, h7, h8, by simpa using h9, fun k x hx => ?_, by rw [List.length_map]; exact hfm⟩
   rw [List.getElem?_map, Option.map_eq_some_iff] at hx
   obtain ⟨x0, hx0, rfl⟩ := hx
   obtain ⟨cv, h11, h12, h13⟩ := h10 k x0 hx0
   exact ⟨cv, h11, h12, hRC x0 cv h13⟩
  | map ks' =>
   obtain ⟨g, es, clk, h6, h7, h8, h9⟩ := this
   exact ⟨g, es, clk, by rw [hι b b' h3]; exact h6, h7, h8, h9⟩
 ·obtain ⟨bk, hbk⟩ := Option.ne_none_iff_exists'.1 hb
  obtain ⟨bk', hbk'⟩ := Option.ne_none_iff_exists'.1 hb'
  obtain ⟨c, k, h3, h4, _, h5⟩ := hnh b bk hbk
  obtain ⟨c', k', h6, h7, _, h8⟩ := hnh b' bk' hbk'
  rw [hι c b h3] at hi
  rw [hι c' b' h6] at hi'
  refine hr.inj c c' g o g' o' (by rw [h4]; simp) (by rw [h7]; simp) hi hi' ?_
  rintro rfl
  have e1 := hlk c b h5
  have e2 := hlk c b' h8
  rw [e1] at e2
  exact hne (Option.some.inj e2)
 ·obtain ⟨bk, hbk⟩ := Option.ne_none_iff_exists'.1 hb
  obtain ⟨c, k, h3, h4, _, h5⟩ := hnh b bk hbk
  rw [hι c b h3] at hi
  exact hr.own c g o (by rw [h4]; simp) hi
end
inductive RV where
 | p (x : PV)
 | own (e : Nat) (rows : List (List PV))
inductive RS where
 | c (x : RV)
 | agg (cs : List RV)
inductive AV where
 | c (x : PV)
 | agg (xs : List PV)
 | ref (cs : List RV)
def RS.cells : RS → List RV
 | .c x => [x]
 | .agg cs => cs
def Qri (w : World) (A : Nat → Prop) (go : Option Nat) (e : Nat) (rows : List (List PV)) (v : Value) : Prop :=
 0 < e ∧ (∀ r ∈ rows, r.length = e) ∧ ∃ a cap, v = .slice a rows.length cap ∧ rows.length ≤ cap ∧ cap ≤ maxLen ∧
  (cap = 0 ∨ ∃ g c el, go = some g ∧ a = some ⟨g, 0, none⟩ ∧ ¬ A g ∧ w.heap[g]? = some (.cells c el (0, 0)) ∧ c.size = cap * e ∧ ∀ (i : Nat) (r : List PV) (k : Nat) (p : PV), rows[i]? = some r → r[k]? = some p → ∃ cv, c[i * e + k]? = some cv ∧ RP w A p cv)
def RVr (w : World) (A : Nat → Prop) (go : Option Nat) : RV → Value → Prop
 | .p x, v => RP w A x v
 | .own e rows, v => Qri w A go e rows v
def Nl (w : World) (A : Nat → Prop) (gs : Nat → Option Nat) : Nat → List RV → List Value → Prop
 | _, [], [] => True
 | n, x :: r, u :: us => u.oneCell' = true ∧ RVr w A (gs n) x u ∧ Nl w A gs (n + 1) r us
 | _, _, _ => False
def RSr (w : World) (A : Nat → Prop) (gs : Nat → Option Nat) (n : Nat) : RS → Value → Prop
 | .c x, v => Nl w A gs n [x] [v]
 | .agg cs, v => ∃ vs, v = .agg vs ∧ Nl w A gs n cs vs.toList
def TsR (w : World) (A : Nat → Prop) (gs : Nat → Option Nat) : Nat → List RS → List Value → Prop
 | _, [], [] => True
 | n, t :: ts, v :: vs => RSr w A gs n t v ∧ TsR w A gs (n + t.cells.length) ts vs
 | _, _, _ => False
def Q5w (w : World) (A : Nat → Prop) (gs : Nat → Option Nat) : List RS → Value → Prop
 | [t], v => RSr w A gs 0 t v
 | ts, v => ∃ vs, v = .tuple vs ∧ TsR w A gs 0 ts vs.toList
def QP (r : List RS) : List RV := r.flatMap RS.cells
def AVr (w : World) (A : Nat → Prop) (gs : Nat → Option Nat) (g q : Nat) : AV → Value → Prop
 | .c x, v => RP w A x v
 | .agg xs, v => ∃ vs, v = .agg vs ∧ Nl w A (fun _ => none) 0 (xs.map .p) vs.toList
 | .ref cs, v => v = .pointer (some ⟨g, q, none⟩) ∧ ∃ c el, w.heap[g]? = some (.cells c el (0, 0)) ∧ ¬ A g ∧ q + cs.length ≤ c.size ∧ Nl w A gs 0 cs ((c.toList.drop q).take cs.length)
def AsR (w : World) (A : Nat → Prop) (gs : Nat → Option Nat) (g q : Nat) : List AV → List Value → Prop
 | [], [] => True
 | a :: avs, v :: vs => AVr w A gs g q a v ∧ AsR w A gs g q avs vs
 | _, _ => False
def AV.isRef : AV → Bool
 | .ref _ => true
 | _ => false
def Q9v (gs : Nat → Option Nat) : Prop := ∀ n m x, gs n = some x → gs m = some x → n = m
def Lj (P : Program) (f : FuncId) : Bool := match P.funcs[f]? with
 | some fn => fn.name != "runtime.NumGoroutine" && fn.body.isSome
 | none => false
structure Va (P : Program) (f : FuncId) (avs : List AV) (r : List RS) (out : List RV) : Prop where
 ent : Lj P f = true
 run : ∀ (A : Nat → Prop) (gs : Nat → Option Nat) (g q : Nat) (w : World) (vs : Array Value), (∀ x, A x → x < w.heap.size) → Q9v gs → (∀ n x, gs n = some x → x < w.heap.size ∧ x ≠ g) → ((avs.any AV.isRef) = false → (∀ n, gs n = none) ∧ g = w.heap.size) → AsR w A gs g q avs vs.toList →
  Calls P f vs w fun e w' => ∃ v A' gs', e = .returned v ∧ (∀ x, A x → A' x) ∧ (∀ x, A' x → A x ∨ x < w'.heap.size ∧ (w.heap.size ≤ x ∨ ∃ n, gs n = some x)) ∧ w.heap.size ≤ w'.heap.size ∧
   (∀ x, x < w.heap.size → x ≠ g → (∀ n, gs n ≠ some x) → w'.heap[x]? = w.heap[x]?) ∧ (w'.os = w.os ∧ SzK w w') ∧ w'.tape = w.tape ∧ w'.output = w.output ∧ Q9v gs' ∧
   (∀ n x, gs' n = some x → x < w'.heap.size ∧ ((avs.any AV.isRef) = true → x ≠ g) ∧ (w.heap.size ≤ x ∨ ∃ m, gs m = some x)) ∧ Q5w w' A' gs' r v ∧
   ((avs.any AV.isRef) = true → ¬ A' g ∧ ∃ c el, w'.heap[g]? = some (.cells c el (0, 0)) ∧ q + out.length ≤ c.size ∧ Nl w' A' gs' (QP r).length out ((c.toList.drop q).take out.length))
theorem DO {w : World} {A : Nat → Prop} {gs : Nat → Option Nat} : ∀ {n : Nat} {cs : List RV} {us : List Value}, Nl w A gs n cs us → us.length = cs.length ∧ ∀ (k : Nat) (x : RV), cs[k]? = some x → ∃ u, us[k]? = some u ∧ u.oneCell' = true ∧ RVr w A (gs (n + k)) x u := by
 intro n cs
 induction cs generalizing n with
 | nil =>
  intro us h
  cases us with
  | nil => exact ⟨rfl, fun k x h => by simp at h⟩
  | cons u us => exact h.elim
 | cons x cs ih =>
  intro us h
  cases us with
  | nil => exact h.elim
  | cons u us =>
   obtain ⟨h1, h2, h3⟩ := h
   obtain ⟨h4, h5⟩ := ih h3
   refine ⟨by simp [h4], fun k y hk => ?_⟩
   cases k with
   | zero =>
    rw [List.getElem?_cons_zero] at hk
    cases hk
    exact ⟨u, rfl, h1, h2⟩
   | succ k =>
    obtain ⟨u', hu, h6, h7⟩ := h5 k y (by simpa using hk)
    exact ⟨u', by simpa using hu, h6, by rw [show n + (k + 1) = n + 1 + k by omega]; exact h7⟩
theorem Qzg {w : World} {A : Nat → Prop} {gs : Nat → Option Nat} : ∀ {n : Nat} {cs : List RV} {us : List Value}, us.length = cs.length → (∀ (k : Nat) (x : RV), cs[k]? = some x → ∃ u, us[k]? = some u ∧ u.oneCell' = true ∧ RVr w A (gs (n + k)) x u) → Nl w A gs n cs us := by
 intro n cs
 induction cs generalizing n with
 | nil =>
  intro us hl _
  cases us with
  | nil => trivial
  | cons u us => simp at hl
 | cons x cs ih =>
  intro us hl h
  cases us with
  | nil => simp at hl
  | cons u us =>
   obtain ⟨u', hu, h1, h2⟩ := h 0 x rfl
   rw [List.getElem?_cons_zero] at hu
   cases hu
   refine ⟨h1, h2, ih (by simpa using hl) fun k y hk => ?_⟩
   obtain ⟨u', hu, h3, h4⟩ := h (k + 1) y (by simpa using hk)
   exact ⟨u', by simpa using hu, h3, by rw [show n + 1 + k = n + (k + 1) by omega]; exact h4⟩
inductive ToC (st : St) : CV → RV → Option Qw → List Qw → Prop
 | p (x : PV) : ToC st (.p x) (.p x) none []
 | nil (e : Nat) : ToC st (.p (.v (.slice none 0 0))) (.p (.l e [])) none []
 | nilo (e : Nat) (he : 0 < e) : ToC st (.p (.v (.slice none 0 0))) (.own e []) none []
 | own {b : Qw} {e n : Nat} {rows : List (List PV)} (hb : st.h b = some (.row e rows true)) (hn : rows.length = n) : ToC st (.sl b 0 n) (.own e rows) (some b) []
 | fr {b : Qw} {e off n : Nat} {rows rows' : List (List PV)} {mu : Bool} (hb : st.h b = some (.row e rows mu)) (hr : (rows.drop off).take n = rows') : ToC st (.sl b off n) (.p (.l e rows')) none [b]
inductive AQ (st : St) : List CV → List RV → List (Option Qw) → List Qw → Prop
 | nil : AQ st [] [] [] []
 | cons {c : CV} {x : RV} {o : Option Qw} {b : List Qw} {cs : List CV} {xs : List RV} {os : List (Option Qw)} {bs : List Qw} (h : ToC st c x o b) (hs : AQ st cs xs os bs) : AQ st (c :: cs) (x :: xs) (o :: os) (b ++ bs)
inductive ToS (st : St) : TV → RS → List (Option Qw) → List Qw → Prop
 | c {c : CV} {x : RV} {o : Option Qw} {b : List Qw} (h : ToC st c x o b) : ToS st (.c c) (.c x) [o] b
 | agg {cs : List CV} {xs : List RV} {os : List (Option Qw)} {bs : List Qw} (h : AQ st cs xs os bs) : ToS st (.agg cs) (.agg xs) os bs
inductive Nn (st : St) : List TV → List RS → List (Option Qw) → List Qw → Prop
 | nil : Nn st [] [] [] []
 | cons {t : TV} {x : RS} {os os' : List (Option Qw)} {bs bs' : List Qw} {ts : List TV} {xs : List RS} (h : ToS st t x os bs) (hs : Nn st ts xs os' bs') : Nn st (t :: ts) (x :: xs) (os ++ os') (bs ++ bs')
section
variable {E : En} {N : Nat} {cx : Cx} {st : St} {a : Act} {w : World} {P : Program}
theorem Qiw {b : Qw} {off n e : Nat} {rows : List (List PV)} {mu : Bool} {v : Value} {A' : Nat → Prop} (hb : st.h b = some (.row e rows mu)) (hR : RB cx w st.h b (.row e rows mu)) (h : RC cx w st.h (.sl b off n) v) (hA : ∀ x, cx.A x → A' x) (hA' : ∀ g o, cx.ι b = some (g, o) → A' g) : RP w A' (.l e ((rows.drop off).take n)) v := by
 obtain ⟨a', cap, rfl, h1, h2, h3, h4⟩ := h _ hb
 obtain ⟨he, hre, hrb⟩ := hR
 simp only [Bk.len] at h3
 simp only [Bk.e] at h4
 have hlen : ((rows.drop off).take n).length = n := by rw [List.length_take, List.length_drop]; omega
 have hat : ∀ (i : Nat) (r : List PV), ((rows.drop off).take n)[i]? = some r → rows[off + i]? = some r := by
  intro i r hi
  rw [List.getElem?_take] at hi
  split at hi
  ·rwa [List.getElem?_drop] at hi
  ·cases hi
 rcases h4 with h4 | ⟨g, c, el, fz, h5, rfl, h6, h7⟩
 ·have hn : n = 0 := by omega
  subst hn
  have key := RP.l (w := w) (A := A') e [] a' cap (fun _ _ => .bool false) (by simp) h2 (by simp) (.inl rfl) (by simp)
  simpa using key
 ·rw [h5] at hrb
  obtain ⟨-, c', el', fz', capR, h8, h9, h10, h11, h12, h13, h14⟩ := hrb
  rw [h6] at h8
  cases h8
  have key := RP.l (w := w) (A := A') e ((rows.drop off).take n) (some ⟨g, off * e, none⟩) cap (fun i k => (c[(off + i) * e + k]?).getD undef) (by omega) h2 (fun r hr => hre r (List.mem_of_mem_drop (List.mem_of_mem_take hr))) ?_ ?_
  ·rw [hlen] at key; exact key
  ·refine .inr ⟨g, off * e, rfl, hA' g 0 h5, (Array.getElem?_eq_some_iff.1 h6).1, fun i r k p hi hk => ?_⟩
   obtain ⟨cv, hcv, hp⟩ := h14 (off + i) r k p (hat i r hi) hk
   rw [World.cell?, h6]
   have : off * e + i * e + k = (off + i) * e + k := by rw [Nat.add_mul]
   simp [this, hcv]
  ·intro i r k p hi hk
   obtain ⟨cv, hcv, hp⟩ := h14 (off + i) r k p (hat i r hi) hk
   rw [hcv]
   exact hp.mono hA (Nat.le_refl _) (fun _ _ _ => rfl)
theorem Qix {A : Nat → Prop} (e : Nat) : RP w A (.l e []) (.slice none 0 0) := by
 have key := RP.l (w := w) (A := A) e [] none 0 (fun _ _ => .bool false) (by simp) (by unfold maxLen; omega) (by simp) (.inl rfl) (by simp)
 simpa using key
def CF (cx : Cx) (o : Option Qw) : Option Nat := o.bind fun b => (cx.ι b).map (·.1)
theorem Mw (hr : Xx E N cx st a w) {c : CV} {x : RV} {o : Option Qw} {bs : List Qw} {v : Value} (h : ToC st c x o bs) (hc : RC cx w st.h c v) {A' : Nat → Prop} (hA : ∀ x, cx.A x → A' x) (hb : ∀ b ∈ bs, ∀ g q, cx.ι b = some (g, q) → A' g)
  (ho : ∀ b, o = some b → ∀ g q, cx.ι b = some (g, q) → ¬ A' g) : RVr w A' (CF cx o) x v := by
 cases h with
 | p x => exact hc.mono hA (Nat.le_refl _) (fun _ _ _ => rfl)
 | nil e => cases hc with | v _ _ => exact Qix e
 | nilo e he => cases hc with | v _ _ => exact ⟨he, by simp, none, 0, rfl, by simp, by unfold maxLen; omega, .inl rfl⟩
 | @own b e n rows hb' hn =>
  subst hn
  obtain ⟨a', cap, rfl, h1, h2, h3, h4⟩ := hc _ hb'
  obtain ⟨he, hre, hrb⟩ := hr.bl b _ hb'
  refine ⟨he, hre, a', cap, rfl, h1, h2, ?_⟩
  rcases h4 with h4 | ⟨g, c, el, fz, h5, rfl, h6, h7⟩
  ·exact .inl h4
  ·rw [h5] at hrb
   obtain ⟨-, c', el', fz', capR, h8, h9, h10, h11, h12, h13, h14⟩ := hrb
   rw [h6] at h8
   cases h8
   obtain ⟨rfl, hnA⟩ := h9 rfl
   simp only [Bk.e, Nat.zero_mul, Nat.zero_add] at h7
   exact .inr ⟨g, c, el, by simp [CF, h5], by simp [Bk.e], ho b rfl g 0 h5, h6, h7 he, fun i r k p hi hk => let ⟨cv, hcv, hp⟩ := h14 i r k p hi hk; ⟨cv, hcv, hp.mono hA (Nat.le_refl _) (fun _ _ _ => rfl)⟩⟩
 | @fr b e off n rows rows' mu hb' hr' =>
  subst hr'
  exact Qiw hb' (hr.bl b _ hb') hc hA (hb b (by simp))
end
def SB : Nat → List AV → List (Nat × TV)
 | _, [] => []
 | j, .c x :: r => (j, .c (.p x)) :: SB (j + 1) r
 | j, .agg xs :: r => (j, .agg (xs.map .p)) :: SB (j + 1) r
 | j, .ref _ :: r => (j, .c (.ptr (j, 0) 0 0)) :: SB (j + 1) r
section
variable {E : En} {N : Nat} {cx : Cx} {st : St} {a : Act} {w w' : World} {P : Program} {T : Tb P}
inductive Pz (T : Tb P) (st : St) : ResultVar → TV → Prop
 | tmpc {s : Nat} {c : CV} (h : st.g s = .c c) (hk : c ≠ .any) : Pz T st (.tmp s) (.c c)
 | tmpa {s : Nat} {cs : List CV} (h : st.g s = .agg cs) : Pz T st (.tmp s) (.agg cs)
 | cellc {s t : Nat} {b : Qw} {c : CV} {te : TE} (h : st.g s = .c (.ptr b 0 0)) (hb : st.h b = some (.box [c])) (ht : Zn T.ty t = some te) (hk : te.kd.agg = false) (hk2 : c ≠ .any) : Pz T st (.cell s t) (.c c)
 | cella {s t : Nat} {b : Qw} {cs : List CV} {te : TE} (h : st.g s = .c (.ptr b 0 0)) (hb : st.h b = some (.box cs)) (ht : Zn T.ty t = some te) (hk : te.kd.agg = true) (hl : cs.length = te.size) : Pz T st (.cell s t) (.agg cs)
inductive Mx (T : Tb P) (st : St) : List ResultVar → List TV → Prop
 | nil : Mx T st [] []
 | cons {r : ResultVar} {t : TV} {rs : List ResultVar} {ts : List TV} (h : Pz T st r t) (hs : Mx T st rs ts) : Mx T st (r :: rs) (t :: ts)
def Lk (P : Program) (tmps : Array Value) : ResultVar → Sem Value
 | .tmp t => pure (tmps.getD t undef)
 | .cell a t => do loadVar t (← asAddr (tmps.getD a undef))
theorem Qiy (hr : Xx E N cx st a w) {rv : ResultVar} {t : TV} (h : Pz T st rv t) : ∃ v, (Lk P a.tmps rv).run P w = .ok v w ∧ t.known = true ∧ RT cx w st.h t v := by
 cases h with
 | @tmpc s c h hk =>
  have := hr.fr s
  rw [h] at this
  exact ⟨_, rfl, by cases c <;> simp_all [TV.known], this⟩
 | @tmpa s cs h =>
  have := hr.fr s
  rw [h] at this
  exact ⟨_, rfl, rfl, this⟩
 | @cellc s t b c te h hb ht hk hk2 =>
  have h1 := hr.fr s
  rw [h] at h1
  obtain ⟨g, o, h2, h3⟩ := h1.2 _ hb
  obtain ⟨g', o', cc, el, h4, h5, h6, h7, h8, -⟩ := hr.bl b _ hb
  rw [h2] at h4
  cases h4
  obtain ⟨cv, h9, h10, h11⟩ := h8 0 c rfl
  refine ⟨cv, ?_, by cases c <;> simp_all [TV.known], .inr h10, h11⟩
  ·simp only [Lk, h3, asAddr, Sem.run_bind, Sem.run_pure, Result.andThen_ok]
   refine FV (T.ok _ _ ht) hk ?_
   rw [World.cell?]
   simp only [Bk.e, Nat.mul_zero, Nat.add_zero, h5]
   simpa using h9
 | @cella s t b cs te h hb ht hk hl =>
  have h1 := hr.fr s
  rw [h] at h1
  obtain ⟨g, o, h2, h3⟩ := h1.2 _ hb
  obtain ⟨g', o', cc, el, h4, h5, h6, h7, h8, -⟩ := hr.bl b _ hb
  rw [h2] at h4
  cases h4
  refine ⟨.agg ((cc.toList.drop o).take cs.length).toArray, ?_, rfl, _, rfl, ?_, fun i c hi => ?_⟩
  ·simp only [Lk, h3, asAddr, Sem.run_bind, Sem.run_pure, Result.andThen_ok]
   refine H7 (T.ok _ _ ht) hk ?_ (fun j u hj => ?_)
   ·simp only [List.length_take, List.length_drop, Array.length_toList]; omega
   ·rw [List.getElem?_take] at hj
    split at hj
    ·rw [List.getElem?_drop, Array.getElem?_toList] at hj
     rw [addr_add, World.cell?]
     simp only [Bk.e, Nat.mul_zero, Nat.add_zero, h5]
     simpa using hj
    ·cases hj
  ·simp only [List.size_toArray, List.length_take, List.length_drop, Array.length_toList]; omega
  ·obtain ⟨cv, h9, h10, h11⟩ := h8 i c hi
   have hil := (List.getElem?_eq_some_iff.1 hi).1
   refine ⟨cv, ?_, h10, h11⟩
   rw [List.getElem?_toArray, List.getElem?_take, if_pos hil, List.getElem?_drop, Array.getElem?_toList]; exact h9
theorem Ix (hr : Xx E N cx st a w) : ∀ {rs : List ResultVar} {ts : List TV}, Mx T st rs ts → ∃ vs : List Value, (rs.mapM (Lk P a.tmps)).run P w = .ok vs w ∧ vs.length = ts.length ∧ ∀ (i : Nat) (t : TV), ts[i]? = some t → ∃ v, vs[i]? = some v ∧ t.known = true ∧ RT cx w st.h t v := by
 intro rs ts h
 induction h with
 | nil => exact ⟨[], rfl, rfl, fun i t h => by simp at h⟩
 | cons h hs ih =>
  obtain ⟨v, h1, h2, h3⟩ := Qiy hr h
  obtain ⟨vs, h4, h5, h6⟩ := ih
  refine ⟨v :: vs, ?_, by simp [h5], fun i t hi => ?_⟩
  ·simp only [List.mapM_cons, Sem.run_bind, h1, h4, Result.andThen_ok, Sem.run_pure]
  ·cases i with
   | zero => rw [List.getElem?_cons_zero] at hi; cases hi; exact ⟨v, rfl, h2, h3⟩
   | succ i => exact h6 i t (by simpa using hi)
theorem EJ {fn : Func} {tmps : Array Value} {rs : List ResultVar} {vs : List Value} (hf : fn.results = rs.toArray) (h : (rs.mapM (Lk P tmps)).run P w = .ok vs w) :
  (results fn tmps).run P w = .ok (match vs with | [v] => v | _ => .tuple vs.toArray) w := by
 have e : (fn.results.mapM (Lk P tmps)).run P w = .ok vs.toArray w := by
  rw [hf, List.mapM_toArray, map_eq_pure_bind]
  simp only [Sem.run_bind, h, Result.andThen_ok, Sem.run_pure]
 have e2 : results fn tmps = (do let vs ← fn.results.mapM (Lk P tmps); pure (if h : vs.size = 1 then vs[0] else .tuple vs)) := rfl
 rw [e2]
 simp only [Sem.run_bind, e, Result.andThen_ok, Sem.run_pure]
 congr 1
 match vs with
 | [] => simp
 | [v] => simp
 | v :: u :: r => simp
theorem My {cs : List CV} {xs : List RV} {os : List (Option Qw)} {bs : List Qw} (h : AQ st cs xs os bs) : cs.length = xs.length ∧ os.length = xs.length := by
 induction h with
 | nil => exact ⟨rfl, rfl⟩
 | cons _ _ ih => simp [ih.1, ih.2]
theorem DR (hr : Xx E N cx st a w) {A' : Nat → Prop} (hA : ∀ x, cx.A x → A' x) {gs : Nat → Option Nat} : ∀ {cs : List CV} {xs : List RV} {os : List (Option Qw)} {bs : List Qw}, AQ st cs xs os bs → ∀ {n : Nat} {vs : List Value},
  (∀ b ∈ bs, ∀ g q, cx.ι b = some (g, q) → A' g) → (∀ b, some b ∈ os → ∀ g q, cx.ι b = some (g, q) → ¬ A' g) → (∀ k o, os[k]? = some o → gs (n + k) = CF cx o) →
  vs.length = cs.length → (∀ (i : Nat) (c : CV), cs[i]? = some c → ∃ u, vs[i]? = some u ∧ u.oneCell' = true ∧ RC cx w st.h c u) → Nl w A' gs n xs vs := by
 intro cs xs os bs h
 induction h with
 | nil =>
  intro n vs _ _ _ hl _
  cases vs with
  | nil => trivial
  | cons u us => simp at hl
 | @cons c x o b cs xs os bs h hs ih =>
  intro n vs hb ho hg hl hv
  cases vs with
  | nil => simp at hl
  | cons v vs =>
   obtain ⟨u, hu, h1, h2⟩ := hv 0 c rfl
   rw [List.getElem?_cons_zero] at hu
   cases hu
   refine ⟨h1, ?_, ih (fun b' hb' => hb b' (List.mem_append_right _ hb')) (fun b' hb' => ho b' (List.mem_cons_of_mem _ hb')) (fun k o' hk => by rw [show n + 1 + k = n + (k + 1) by omega]; exact hg (k + 1) o' (by simpa using hk)) (by simpa using hl) (fun i c' hi => hv (i + 1) c' (by simpa using hi))⟩
   have hg0 := hg 0 o rfl
   rw [Nat.add_zero] at hg0
   rw [hg0]
   exact Mw hr h h2 hA (fun b' hb' => hb b' (List.mem_append_left _ hb')) (fun b' hb' => ho b' (by rw [hb']; exact List.mem_cons_self))
theorem Qrj (hr : Xx E N cx st a w) {A' : Nat → Prop} (hA : ∀ x, cx.A x → A' x) {gs : Nat → Option Nat} {t : TV} {x : RS} {os : List (Option Qw)} {bs : List Qw} (h : ToS st t x os bs) {n : Nat} {v : Value}
  (hb : ∀ b ∈ bs, ∀ g q, cx.ι b = some (g, q) → A' g) (ho : ∀ b, some b ∈ os → ∀ g q, cx.ι b = some (g, q) → ¬ A' g) (hg : ∀ k o, os[k]? = some o → gs (n + k) = CF cx o) (hk : t.known = true) (hv : RT cx w st.h t v) : RSr w A' gs n x v ∧ os.length = x.cells.length := by
 have hrl := FW hk hv
 cases h with
 | @c c x o b h =>
  have hone : v.oneCell' = true := by
   rcases hv.1 with h1 | h1
   ·subst h1; cases hk
   ·exact h1
  have hc : v.cells = #[v] := by cases v <;> simp_all [Value.cells, Value.oneCell']
  refine ⟨?_, rfl⟩
  show Nl w A' gs n [x] [v]
  have h2 : AQ st [c] [x] [o] (bs ++ []) := .cons h .nil
  refine DR hr hA h2 (by simpa using hb) ho hg rfl (fun i c' hi => ?_)
  obtain ⟨u, hu, h3, h4⟩ := hrl.2 i c' hi
  rw [hc] at hu
  exact ⟨u, by simpa using hu, h3, h4⟩
 | @agg cs xs os bs h =>
  obtain ⟨vs, rfl, h5⟩ := hv
  refine ⟨⟨vs, rfl, DR hr hA h hb ho hg (by simp [h5.1]) (fun i c' hi => ?_)⟩, (My h).2⟩
  obtain ⟨u, hu, h3, h4⟩ := h5.2 i c' hi
  exact ⟨u, by simpa using hu, h3, h4⟩
theorem Mz (hr : Xx E N cx st a w) {A' : Nat → Prop} (hA : ∀ x, cx.A x → A' x) {gs : Nat → Option Nat} : ∀ {ts : List TV} {xs : List RS} {os : List (Option Qw)} {bs : List Qw}, Nn st ts xs os bs → ∀ {n : Nat} {vs : List Value},
  (∀ b ∈ bs, ∀ g q, cx.ι b = some (g, q) → A' g) → (∀ b, some b ∈ os → ∀ g q, cx.ι b = some (g, q) → ¬ A' g) → (∀ k o, os[k]? = some o → gs (n + k) = CF cx o) →
  vs.length = ts.length → (∀ (i : Nat) (t : TV), ts[i]? = some t → ∃ v, vs[i]? = some v ∧ t.known = true ∧ RT cx w st.h t v) → TsR w A' gs n xs vs ∧ os.length = (QP xs).length := by
 intro ts xs os bs h
 induction h with
 | nil =>
  intro n vs _ _ _ hl _
  cases vs with
  | nil => exact ⟨trivial, rfl⟩
  | cons u us => simp at hl
 | @cons t x os os' bs bs' ts xs h hs ih =>
  intro n vs hb ho hg hl hv
  cases vs with
  | nil => simp at hl
  | cons v vs =>
   obtain ⟨u, hu, h1, h2⟩ := hv 0 t rfl
   rw [List.getElem?_cons_zero] at hu
   cases hu
   obtain ⟨h3, h4⟩ := Qrj hr hA h (n := n) (fun b' hb' => hb b' (List.mem_append_left _ hb')) (fun b' hb' => ho b' (List.mem_append_left _ hb')) (fun k o hk => hg k o (by rw [List.getElem?_append_left (List.getElem?_eq_some_iff.1 hk).1]; exact hk)) h1 h2
   obtain ⟨h5, h6⟩ := ih (n := n + x.cells.length) (vs := vs) (fun b' hb' => hb b' (List.mem_append_right _ hb')) (fun b' hb' => ho b' (List.mem_append_right _ hb')) (fun k o hk => by
    rw [show n + x.cells.length + k = n + (os.length + k) by omega]
    exact hg (os.length + k) o (by rw [List.getElem?_append_right (by omega)]; simpa using hk)) (by simpa using hl) (fun i t' hi => hv (i + 1) t' (by simpa using hi))
   exact ⟨⟨h3, h5⟩, by simp [QP, h4] at h6 ⊢; omega⟩
def Ll (os : List (Option Qw)) : Bool := Q5v (os.filterMap id)
theorem DK {os : List (Option Qw)} (h : Ll os = true) : ∀ (i j : Nat) (b : Qw), os[i]? = some (some b) → os[j]? = some (some b) → i = j := by
 induction os with
 | nil => intro i j b h; simp at h
 | cons o r ih =>
  have hr : Ll r = true := by
   unfold Ll at h ⊢
   cases o with
   | none => simpa using h
   | some b => simp only [List.filterMap_cons, id, Q5v, Bool.and_eq_true] at h; exact h.2
  have hn : ∀ b, o = some b → some b ∉ r := by
   rintro b rfl hm
   unfold Ll at h
   simp only [List.filterMap_cons, id, Q5v, Bool.and_eq_true, Bool.not_eq_true'] at h
   rw [HG.2 (List.mem_filterMap.2 ⟨some b, hm, rfl⟩)] at h
   cases h.1
  intro i j b hi hj
  cases i with
  | zero =>
   cases j with
   | zero => rfl
   | succ j =>
    rw [List.getElem?_cons_zero] at hi
    rw [List.getElem?_cons_succ] at hj
    exact absurd (List.mem_of_getElem? hj) (hn b (Option.some.inj hi))
  | succ i =>
   cases j with
   | zero =>
    rw [List.getElem?_cons_zero] at hj
    rw [List.getElem?_cons_succ] at hi
    exact absurd (List.mem_of_getElem? hi) (hn b (Option.some.inj hj))
   | succ j => rw [ih hr i j b (by simpa using hi) (by simpa using hj)]
def Om (T : Tb P) (fn : Func) (r : List RS) : Exit → St → Prop := fun e st => (e = .normal ∨ e = .ret) ∧ ∃ ts os bs, Mx T st fn.results.toList ts ∧ Nn st ts r os bs ∧ Ll os = true ∧ Dh (os.filterMap id) bs = true
theorem Qcu {cx : Cx} {gs : Nat → Option Nat} {g q : Nat} {h : Qw → Option Bk} : ∀ {avs : List AV} {vs : List Value} {j : Nat}, (avs.any AV.isRef) = false → AsR w cx.A gs g q avs vs → vs.length = avs.length ∧ ∀ s t, Zn (SB j avs) s = some t → ∃ i v, s = j + i ∧ vs[i]? = some v ∧ RT cx w h t v := by
 intro avs
 induction avs with
 | nil =>
  intro vs j _ hR
  cases vs with
  | nil => exact ⟨rfl, fun s t h => by cases h⟩
  | cons v vs => exact hR.elim
 | cons av avs ih =>
  intro vs j hn hR
  cases vs with
  | nil => exact hR.elim
  | cons v vs =>
   obtain ⟨h1, h2⟩ := hR
   simp only [List.any_cons, Bool.or_eq_false_iff] at hn
   obtain ⟨h3, h4⟩ := ih (j := j + 1) hn.2 h2
   have key : ∀ t0, SB j (av :: avs) = (j, t0) :: SB (j + 1) avs → RT cx w h t0 v → ∀ s t, Zn (SB j (av :: avs)) s = some t → ∃ i v', s = j + i ∧ (v :: vs)[i]? = some v' ∧ RT cx w h t v' := by
    intro t0 e ht s t hl
    rw [e] at hl
    simp only [Zn] at hl
    cases hb : Nat.beq j s with
    | true =>
     rw [hb] at hl
     cases hl
     exact ⟨0, v, by rw [Nat.eq_of_beq_eq_true hb]; rfl, rfl, ht⟩
    | false =>
     rw [hb] at hl
     obtain ⟨i, v', h5, h6, h7⟩ := h4 s t hl
     exact ⟨i + 1, v', by omega, by simpa using h6, h7⟩
   refine ⟨by simp [h3], ?_⟩
   cases av with
   | c x => exact key _ rfl ⟨.inr (RP.one h1), h1⟩
   | agg xs =>
    obtain ⟨us, rfl, h5⟩ := h1
    obtain ⟨h6, h7⟩ := DO h5
    refine key _ rfl ⟨us, rfl, by simpa using h6, fun i c hi => ?_⟩
    rw [List.getElem?_map, Option.map_eq_some_iff] at hi
    obtain ⟨x, hx, rfl⟩ := hi
    obtain ⟨u, hu, h8, h9⟩ := h7 i (.p x) (by rw [List.getElem?_map, hx]; rfl)
    exact ⟨u, by simpa using hu, h8, h9⟩
   | ref cs => cases hn.1
theorem No {f : FuncId} {fn : Func} {body : Code} {avs : List AV} {r : List RS} (T : Tb P) (hf : P.funcs[f]? = some fn) (hb : fn.body = some body) (he : Lj P f = true) (hN : fn.ntmps = N) (hN2 : Nat.ble N 65536 = true) (hl : avs.length ≤ N) (hn : avs.any AV.isRef = false)
  (h : ∀ E, AW E N P body (Om T fn r) ⟨SB 0 avs, []⟩) : Va P f avs r [] := by
 refine ⟨he, fun A gs g q w vs hA hinj hgs hg hR => ?_⟩
 obtain ⟨hg1, rfl⟩ := hg hn
 obtain ⟨hvl, hfr⟩ := Qcu (cx := ⟨fun _ => none, A⟩) (h := (⟨SB 0 avs, []⟩ : St).h) (j := 0) hn hR
 let E : En := ⟨w, A, fun _ => False, fun _ => none⟩
 have hsz : vs.size = avs.length := by simpa using hvl
 have hr : Xx E N ⟨fun _ => none, A⟩ ⟨SB 0 avs, []⟩ { tmps := vs ++ Array.replicate (fn.ntmps - vs.size) undef, defers := [] } w := by
  refine ⟨rfl, by simp; omega, fun s => ?_, fun b bk hb => ?_, fun b b' g o g' o' hb => ?_, fun b g o hb => ?_, fun x hx => ⟨hA x hx, .inl hx⟩, fun x hx => hx, fun _ _ _ => rfl, Nat.le_refl _, rfl, rfl, rfl, Nat.le_of_ble_eq_true hN2, fun _ _ => rfl, .refl _⟩
  ·have e : (⟨SB 0 avs, []⟩ : St).g s = (Zn (SB 0 avs) s).getD (.c .any) := rfl
   rw [e]
   cases hl : Zn (SB 0 avs) s with
   | none => exact ⟨.inl rfl, trivial⟩
   | some t =>
    obtain ⟨i, v, h1, h2, h3⟩ := hfr s t hl
    rw [Nat.zero_add] at h1
    subst h1
    have hi := (List.getElem?_eq_some_iff.1 h2).1
    have : (vs ++ Array.replicate (fn.ntmps - vs.size) undef).getD s undef = v := by
     rw [Array.getD_eq_getD_getElem?, Array.getElem?_append_left (by simpa using hi)]
     rw [Array.getElem?_toList] at h2
     rw [h2]; rfl
    show RT _ w _ _ ((vs ++ Array.replicate (fn.ntmps - vs.size) undef).getD s undef)
    rw [this]
    exact h3
  ·cases hb
  ·exact absurd rfl hb
  ·exact absurd rfl hb
 refine calls_of_wp hf hb (wp_mono (h E _ _ _ hr) ?_)
 rintro e a' w' ⟨st', cx', ⟨he, ts, os, bs, h1, h2, h3, h4⟩, hr'⟩
 obtain ⟨vs', h5, h6, h7⟩ := Ix hr' h1
 have hres := EJ (fn := fn) (rs := fn.results.toList) (by simp) h5
 have hnod := DK h3
 have hdis := VL h4
 -- the blocks that were handed on
 let A' : Nat → Prop := fun x => cx'.A x ∨ ∃ b ∈ bs, st'.h b ≠ none ∧ ∃ q, cx'.ι b = some (x, q)
 have hbsl : ∀ {ts xs os bs}, Nn st' ts xs os bs → (∀ b ∈ bs, st'.h b ≠ none) ∧ ∀ b, some b ∈ os → ∃ e rows, st'.h b = some (.row e rows true) := by
  have hC : ∀ {c x o bs}, ToC st' c x o bs → (∀ b ∈ bs, st'.h b ≠ none) ∧ ∀ b, o = some b → ∃ e rows, st'.h b = some (.row e rows true) := by
   intro c x o bs h
   cases h with
   | p x => exact ⟨by simp, by simp⟩
   | nil e => exact ⟨by simp, by simp⟩
   | nilo e he => exact ⟨by simp, by simp⟩
   | own hb hn => exact ⟨by simp, fun b hb' => by cases hb'; exact ⟨_, _, hb⟩⟩
   | fr hb hr => exact ⟨fun b hb' => by rw [List.mem_singleton.1 hb', hb]; simp, by simp⟩
  have hCs : ∀ {cs xs os bs}, AQ st' cs xs os bs → (∀ b ∈ bs, st'.h b ≠ none) ∧ ∀ b, some b ∈ os → ∃ e rows, st'.h b = some (.row e rows true) := by
   intro cs xs os bs h
   induction h with
   | nil => exact ⟨by simp, by simp⟩
   | cons h hs ih =>
    obtain ⟨h1, h2⟩ := hC h
    refine ⟨fun b hb => ?_, fun b hb => ?_⟩
    ·rcases List.mem_append.1 hb with h | h
     ·exact h1 b h
     ·exact ih.1 b h
    ·rcases List.mem_cons.1 hb with h | h
     ·exact h2 b h.symm
     ·exact ih.2 b h
  intro ts xs os bs h
  induction h with
  | nil => exact ⟨by simp, by simp⟩
  | @cons t x os os' bs bs' ts xs h hs ih =>
   have hS : (∀ b ∈ bs, st'.h b ≠ none) ∧ ∀ b, some b ∈ os → ∃ e rows, st'.h b = some (.row e rows true) := by
    cases h with
    | c h =>
     obtain ⟨h1, h2⟩ := hC h
     exact ⟨h1, fun b hb => h2 b (List.mem_singleton.1 hb).symm⟩
    | agg h => exact hCs h
   refine ⟨fun b hb => ?_, fun b hb => ?_⟩
   ·rcases List.mem_append.1 hb with h | h
    ·exact hS.1 b h
    ·exact ih.1 b h
   ·rcases List.mem_append.1 hb with h | h
    ·exact hS.2 b h
    ·exact ih.2 b h
 obtain ⟨hbl, hol⟩ := hbsl h2
 have hmut : ∀ b, some b ∈ os → ∀ g q, cx'.ι b = some (g, q) → ¬ cx'.A g := by
  intro b hb g q hg
  obtain ⟨e1, rows, hbk⟩ := hol b hb
  obtain ⟨_, _, h8⟩ := hr'.bl b _ hbk
  rw [hg] at h8
  obtain ⟨_, c, el, fz, capR, _, h9, _⟩ := h8
  exact (h9 rfl).2
 have hlive : ∀ b, some b ∈ os → st'.h b ≠ none := fun b hb => by obtain ⟨_, _, h⟩ := hol b hb; rw [h]; simp
 have hnA : ∀ b, some b ∈ os → ∀ g q, cx'.ι b = some (g, q) → ¬ A' g := by
  rintro b hb g q hg (h | ⟨b2, hb2, hb2l, q2, hg2⟩)
  ·exact hmut b hb g q hg h
  ·refine hr'.inj b b2 g q g q2 (hlive b hb) hb2l hg hg2 ?_ rfl
   rintro rfl
   exact hdis b (List.mem_filterMap.2 ⟨some b, hb, rfl⟩) hb2
 have hval := (Mz hr' (A' := A') (fun x hx => .inl hx) h2 (n := 0) (gs := fun n => CF cx' ((os[n]?).getD none)) (vs := vs') (fun b hb g q hg => .inr ⟨b, hb, hbl b hb, q, hg⟩) (fun b hb g q hg => hnA b hb g q hg) (fun k o hk => by rw [Nat.zero_add, hk]; rfl) h6 h7).1
 have hgo : ∀ (n x : Nat), CF cx' ((os[n]?).getD none) = some x → ∃ b q, os[n]? = some (some b) ∧ cx'.ι b = some (x, q) := by
  intro n x hx
  cases ho : os[n]? with
  | none => rw [ho] at hx; cases hx
  | some o =>
   rw [ho] at hx
   cases o with
   | none => cases hx
   | some b =>
    simp only [CF, Option.getD_some, Option.bind_some, Option.map_eq_some_iff] at hx
    obtain ⟨⟨x', q⟩, h8, rfl⟩ := hx
    exact ⟨b, q, rfl, h8⟩
 have hfin : ∃ v, (results fn a'.tmps).run P w' = .ok v w' ∧ Q5w w' A' (fun n => CF cx' ((os[n]?).getD none)) r v := by
  refine ⟨_, hres, ?_⟩
  match r, vs', hval with
  | [], [], _ => exact ⟨#[], rfl, trivial⟩
  | [t], [v], h => exact h.1
  | t :: t2 :: r, v :: v2 :: vs, h => exact ⟨_, rfl, h⟩
  | [t], v :: v2 :: vs, h => exact h.2.elim
  | t :: t2 :: r, [v], h => exact h.2.elim
 obtain ⟨v, hv1, hv2⟩ := hfin
 have hR2 : a'.defers = [] ∧ ∃ v, (results fn a'.tmps).run P w' = .ok v w' ∧ ∃ v' A2 gs', Ending.returned v = .returned v' ∧ (∀ x, A x → A2 x) ∧ (∀ x, A2 x → A x ∨ x < w'.heap.size ∧ (w.heap.size ≤ x ∨ ∃ n, gs n = some x)) ∧ w.heap.size ≤ w'.heap.size ∧
   (∀ x, x < w.heap.size → x ≠ w.heap.size → (∀ n, gs n ≠ some x) → w'.heap[x]? = w.heap[x]?) ∧ (w'.os = w.os ∧ SzK w w') ∧ w'.tape = w.tape ∧ w'.output = w.output ∧ Q9v gs' ∧
   (∀ n x, gs' n = some x → x < w'.heap.size ∧ ((avs.any AV.isRef) = true → x ≠ w.heap.size) ∧ (w.heap.size ≤ x ∨ ∃ m, gs m = some x)) ∧ Q5w w' A2 gs' r v' ∧
   ((avs.any AV.isRef) = true → ¬ A2 w.heap.size ∧ ∃ c el, w'.heap[w.heap.size]? = some (.cells c el (0, 0)) ∧ q + ([] : List RV).length ≤ c.size ∧ Nl w' A2 gs' (QP r).length [] ((c.toList.drop q).take ([] : List RV).length)) := by
  refine ⟨hr'.defers, v, hv1, v, A', _, rfl, fun x hx => .inl (hr'.A0 x hx), ?_, hr'.sz, fun x hx _ _ => hr'.kept x hx (fun h => h), ⟨hr'.os, hr'.cz⟩, hr'.tape, hr'.output, ?_, ?_, hv2, fun h => by rw [hn] at h; cases h⟩
  ·rintro x (h | ⟨b, hb, hbl', q, hq⟩)
   ·obtain ⟨h8, h9 | h9 | h9⟩ := hr'.A x h
    ·exact .inl h9
    ·exact .inr ⟨h8, .inl h9⟩
    ·exact h9.elim
   ·obtain ⟨h8, h9 | h9⟩ := hr'.own b x q hbl' hq
    ·exact .inr ⟨h8, .inl h9⟩
    ·exact h9.elim
  ·intro n m x hx hy
   obtain ⟨b, q, h8, h9⟩ := hgo n x hx
   obtain ⟨b2, q2, h10, h11⟩ := hgo m x hy
   by_cases hbb : b = b2
   ·subst hbb; exact hnod n m b h8 h10
   ·exact absurd rfl (hr'.inj b b2 x q x q2 (hlive b (List.mem_of_getElem? h8)) (hlive b2 (List.mem_of_getElem? h10)) h9 h11 hbb)
  ·intro n x hx
   obtain ⟨b, q, h8, h9⟩ := hgo n x hx
   obtain ⟨h10, h11 | h11⟩ := hr'.own b x q (hlive b (List.mem_of_getElem? h8)) h9
   ·exact ⟨h10, (fun h => by rw [hn] at h; cases h), .inl h11⟩
   ·exact h11.elim
 rcases he with rfl | rfl
 ·exact hR2
 ·exact hR2
end
def adC (d n : Nat) : RV → CV
 | .p x => .p x
 | .own _ rows => .sl (d, n) 0 rows.length
def F7 (d : Nat) : Nat → List RV → List CV
 | _, [] => []
 | n, x :: r => adC d n x :: F7 d (n + 1) r
def AX (d : Nat) : Nat → List RV → List (Qw × Option Bk)
 | _, [] => []
 | n, .p _ :: r => AX d (n + 1) r
 | n, .own e rows :: r => ((d, n), some (.row e rows true)) :: AX d (n + 1) r
def adS (d n : Nat) : RS → TV
 | .c x => .c (adC d n x)
 | .agg cs => .agg (F7 d n cs)
def Q5x (d : Nat) : Nat → List RS → List TV
 | _, [] => []
 | n, t :: r => adS d n t :: Q5x d (n + t.cells.length) r
def IG (d : Nat) : List RS → TV
 | [t] => adS d 0 t
 | ts => .tup (Q5x d 0 ts)
def frz : Option Bk → Option Bk
 | some (.row e rows _) => some (.row e rows false)
 | x => x
def YJ (st : St) (bs : List Qw) : List (Qw × Option Bk) := bs.map fun b => (b, frz (st.h b))
def noL : PV → Bool
 | .v _ => true
 | .l _ _ => false
 | .o _ => true
def NoLs (cs : List RV) : Prop := ∀ x ∈ cs, match x with
 | .p p => noL p = true
 | .own _ rows => ∀ r ∈ rows, ∀ p ∈ r, noL p = true
inductive Gp (st : St) : List CV → List PV → List Qw → Prop
 | nil : Gp st [] [] []
 | cons {c : CV} {x : PV} {b : List Qw} {cs : List CV} {xs : List PV} {bs : List Qw} (h : ToC st c (.p x) none b) (hs : Gp st cs xs bs) : Gp st (c :: cs) (x :: xs) (b ++ bs)
inductive ToA (st : St) : TV → AV → List Qw → Prop
 | c {c : CV} {x : PV} {b : List Qw} (h : ToC st c (.p x) none b) : ToA st (.c c) (.c x) b
 | agg {cs : List CV} {xs : List PV} {bs : List Qw} (h : Gp st cs xs bs) : ToA st (.agg cs) (.agg xs) bs
inductive MA (st : St) : List TV → List AV → List Qw → Prop
 | nil : MA st [] [] []
 | cons {t : TV} {x : AV} {bs bs' : List Qw} {ts : List TV} {xs : List AV} (h : ToA st t x bs) (hs : MA st ts xs bs') : MA st (t :: ts) (x :: xs) (bs ++ bs')
def ιOf (go : Option Nat) : Value → Option (Nat × Nat)
 | .slice _ _ 0 => none
 | _ => go.map (·, 0)
theorem WB (d : Nat) : ∀ (cs : List RV) (n : Nat) (b : Qw), XZ (AX d n cs) b = if b.1 = d ∧ n ≤ b.2 then (match cs[b.2 - n]? with | some (.own e rows) => some (some (.row e rows true)) | _ => none) else none := by
 intro cs
 induction cs with
 | nil => intro n b; simp [AX, XZ]
 | cons x cs ih =>
  intro n b
  have key : XZ (AX d (n + 1) cs) b = if b.1 = d ∧ n + 1 ≤ b.2 then (match cs[b.2 - (n + 1)]? with | some (.own e rows) => some (some (.row e rows true)) | _ => none) else none := ih (n + 1) b
  by_cases hb : b.1 = d ∧ n ≤ b.2
  ·by_cases he : b.2 = n
   ·have hb0 : b.2 - n = 0 := by omega
    have h2 : ¬ (b.1 = d ∧ n + 1 ≤ b.2) := by omega
    rw [if_neg h2] at key
    rw [if_pos hb, hb0]
    cases x with
    | p p => simpa [AX] using key
    | own e rows =>
     have : VP (d, n) b = true := Z6.2 (by obtain ⟨b1, b2⟩ := b; simp at hb he ⊢; exact ⟨hb.1.symm, he.symm⟩)
     simp only [AX, XZ, this]; rfl
   ·have h2 : b.1 = d ∧ n + 1 ≤ b.2 := by omega
    rw [if_pos h2] at key
    rw [if_pos hb, show b.2 - n = (b.2 - (n + 1)) + 1 by omega, List.getElem?_cons_succ]
    cases x with
    | p p => simpa [AX] using key
    | own e rows =>
     have : VP (d, n) b = false := by
      cases hx : VP (d, n) b with
      | false => rfl
      | true => have := Z6.1 hx; subst this; exact absurd rfl he
     simp only [AX, XZ, this]; exact key
  ·have h2 : ¬ (b.1 = d ∧ n + 1 ≤ b.2) := by omega
   rw [if_neg h2] at key
   rw [if_neg hb]
   cases x with
   | p p => simpa [AX] using key
   | own e rows =>
    have : VP (d, n) b = false := by
     cases hx : VP (d, n) b with
     | false => rfl
     | true => have := Z6.1 hx; subst this; exact absurd ⟨rfl, Nat.le_refl _⟩ hb
    simp only [AX, XZ, this]; exact key
theorem Q9w (st : St) (bs : List Qw) (b : Qw) : XZ (YJ st bs) b = if b ∈ bs then some (frz (st.h b)) else none := by
 induction bs with
 | nil => simp [YJ, XZ]
 | cons c bs ih =>
  unfold YJ at ih ⊢
  simp only [List.map_cons, XZ]
  by_cases h : c = b
  ·subst h
   rw [Z6.2 rfl, if_pos (by simp)]
  ·have : VP c b = false := by
    cases hx : VP c b with
    | false => rfl
    | true => exact absurd (Z6.1 hx) h
   rw [this]
   simp only
   rw [ih]
   by_cases hb : b ∈ bs
   ·rw [if_pos hb, if_pos (List.mem_cons_of_mem _ hb)]
   ·rw [if_neg hb, if_neg (by rw [List.mem_cons, not_or]; exact ⟨fun e => h e.symm, hb⟩)]
section
variable {E : En} {N : Nat} {cx : Cx} {st : St} {a : Act} {w w' : World} {P : Program} {T : Tb P} {ops : Array Oper} {d : Nat} {ty : Nat} {pos : String} {af : Array Edge} {gd : Option (Nat × Bool)} {h : Qw → Option Bk}
theorem P9 {A : Nat → Prop} {go : Option Nat} {e : Nat} {rows : List (List PV)} {u : Value} {b : Qw} (ho : Qri w A go e rows u) (hb : h b = some (.row e rows true)) (hι : cx.ι b = ιOf go u) : RC cx w h (.sl b 0 rows.length) u := by
 intro bk hbk
 rw [hb] at hbk
 cases hbk
 obtain ⟨h1, h2, a', cap, rfl, h3, h4, h5⟩ := ho
 refine ⟨a', cap, rfl, h3, h4, by simp [Bk.len], ?_⟩
 rcases h5 with h5 | ⟨g, c, el, rfl, rfl, h6, h7, h8, h9⟩
 ·exact .inl h5
 ·by_cases hc : cap = 0
  ·exact .inl hc
  ·refine .inr ⟨g, c, el, (0, 0), ?_, by simp [Bk.e], h7, fun _ => by simp [Bk.e, h8]⟩
   rw [hι]
   cases cap with
   | zero => exact absurd rfl hc
   | succ n => rfl
theorem Pb {go : Option Nat} {e : Nat} {rows : List (List PV)} {u : Value} {b : Qw} (ho : Qri w cx.A go e rows u) (hι : cx.ι b = ιOf go u) : RB cx w h b (.row e rows true) := by
 obtain ⟨h1, h2, a', cap, rfl, h3, h4, h5⟩ := ho
 refine ⟨h1, h2, ?_⟩
 rw [hι]
 by_cases hc : cap = 0
 ·subst hc
  show rows = []
  exact List.eq_nil_of_length_eq_zero (by omega)
 ·rcases h5 with h5 | ⟨g, c, el, rfl, rfl, h6, h7, h8, h9⟩
  ·exact absurd h5 hc
  ·have : ιOf (some g) (.slice (some ⟨g, 0, none⟩) rows.length cap) = some (g, 0) := by
    cases cap with
    | zero => exact absurd rfl hc
    | succ n => rfl
   rw [this]
   exact ⟨rfl, c, el, (0, 0), cap, h7, fun _ => ⟨rfl, h6⟩, (fun h => by cases h), h8, h3, h4, h9⟩
def Lm : RS → Value → List Value
 | .c _, v => [v]
 | .agg _, v => v.cells.toList
def Q5y : List RS → List Value → List Value
 | t :: ts, v :: vs => Lm t v ++ Q5y ts vs
 | _, _ => []
theorem Qcv {A : Nat → Prop} {gs : Nat → Option Nat} : ∀ {n : Nat} {cs ds : List RV} {us vs : List Value}, Nl w A gs n cs us → Nl w A gs (n + cs.length) ds vs → Nl w A gs n (cs ++ ds) (us ++ vs) := by
 intro n cs
 induction cs generalizing n with
 | nil =>
  intro ds us vs h1 h2
  cases us with
  | nil => simpa using h2
  | cons u us => exact h1.elim
 | cons c cs ih =>
  intro ds us vs h1 h2
  cases us with
  | nil => exact h1.elim
  | cons u us =>
   obtain ⟨h3, h4, h5⟩ := h1
   exact ⟨h3, h4, ih h5 (by rw [show n + 1 + cs.length = n + (c :: cs).length by simp; omega]; exact h2)⟩
theorem Q17 {A : Nat → Prop} {gs : Nat → Option Nat} {n : Nat} {t : RS} {v : Value} (h : RSr w A gs n t v) : Nl w A gs n t.cells (Lm t v) := by
 cases t with
 | c x => exact h
 | agg cs => obtain ⟨vs, rfl, h⟩ := h; exact h
theorem Qrk {A : Nat → Prop} {gs : Nat → Option Nat} : ∀ {n : Nat} {ts : List RS} {vs : List Value}, TsR w A gs n ts vs → Nl w A gs n (QP ts) (Q5y ts vs) := by
 intro n ts
 induction ts generalizing n with
 | nil =>
  intro vs h
  cases vs with
  | nil => trivial
  | cons v vs => exact h.elim
 | cons t ts ih =>
  intro vs h
  cases vs with
  | nil => exact h.elim
  | cons v vs => exact Qcv (Q17 h.1) (ih h.2)
theorem Q18 : ∀ (cs : List RV) (n k : Nat), (F7 d n cs)[k]? = (cs[k]?).map (adC d (n + k)) := by
 intro cs
 induction cs with
 | nil => intro n k; simp [F7]
 | cons c cs ih =>
  intro n k
  cases k with
  | zero => simp [F7]
  | succ k => simp only [F7, List.getElem?_cons_succ, ih]; rw [show n + 1 + k = n + (k + 1) by omega]
theorem PC (cs : List RV) (n : Nat) : (F7 d n cs).length = cs.length := by
 induction cs generalizing n with
 | nil => rfl
 | cons c cs ih => simp [F7, ih]
theorem Qvr {A : Nat → Prop} {gs : Nat → Option Nat} {n : Nat} {t : RS} {v : Value} (hr : RSr w A gs n t v) (hc : ∀ k x u, t.cells[k]? = some x → (Lm t v)[k]? = some u → RC cx w h (adC d (n + k) x) u) : RT1 cx w h (adS d n t) v := by
 cases t with
 | c x =>
  have h1 : v.oneCell' = true := hr.1
  exact ⟨.inr h1, hc 0 x v rfl rfl⟩
 | agg cs =>
  obtain ⟨vs, rfl, h1⟩ := hr
  obtain ⟨h2, h3⟩ := DO h1
  refine ⟨vs, rfl, by rw [PC]; simpa using h2, fun i c hi => ?_⟩
  rw [Q18, Option.map_eq_some_iff] at hi
  obtain ⟨x, hx, rfl⟩ := hi
  obtain ⟨u, hu, h4, h5⟩ := h3 i x hx
  exact ⟨u, by simpa using hu, h4, hc i x u hx hu⟩
theorem ts_rt {A : Nat → Prop} {gs : Nat → Option Nat} : ∀ {n : Nat} {ts : List RS} {vs : List Value}, TsR w A gs n ts vs → (∀ k x u, (QP ts)[k]? = some x → (Q5y ts vs)[k]? = some u → RC cx w h (adC d (n + k) x) u) →
  vs.length = (Q5x d n ts).length ∧ ∀ (i : Nat) (t : TV), (Q5x d n ts)[i]? = some t → ∃ v, vs[i]? = some v ∧ RT1 cx w h t v := by
 intro n ts
 induction ts generalizing n with
 | nil =>
  intro vs hr _
  cases vs with
  | nil => exact ⟨rfl, fun i t hi => by simp [Q5x] at hi⟩
  | cons v vs => exact hr.elim
 | cons t ts ih =>
  intro vs hr hc
  cases vs with
  | nil => exact hr.elim
  | cons v vs =>
   have hfl : QP (t :: ts) = t.cells ++ QP ts := by simp [QP]
   have hlen : (Lm t v).length = t.cells.length := (DO (Q17 hr.1)).1
   have h1 := Qvr (d := d) (cx := cx) (h := h) hr.1 (fun k x u hk hu => hc k x u (by rw [hfl, List.getElem?_append_left (List.getElem?_eq_some_iff.1 hk).1]; exact hk) (by
    show (Lm t v ++ Q5y ts vs)[k]? = _
    rw [List.getElem?_append_left (List.getElem?_eq_some_iff.1 hu).1]; exact hu))
   obtain ⟨h2, h3⟩ := ih hr.2 (fun k x u hk hu => by
    rw [show n + t.cells.length + k = n + (t.cells.length + k) by omega]
    refine hc (t.cells.length + k) x u ?_ ?_
    ·rw [hfl, List.getElem?_append_right (by omega)]; simpa using hk
    ·show (Lm t v ++ Q5y ts vs)[t.cells.length + k]? = _
     rw [List.getElem?_append_right (by omega)]
     rw [hlen]; simpa using hu)
   refine ⟨by simp [Q5x, h2], fun i t' hi => ?_⟩
   simp only [Q5x] at hi
   cases i with
   | zero => rw [List.getElem?_cons_zero] at hi; cases hi; exact ⟨v, rfl, h1⟩
   | succ i => exact h3 i t' (by simpa using hi)
theorem Qew {t : TV} {v : Value} (h1 : RT1 cx w h t v) : RT cx w h t v := by cases t <;> first | exact h1 | exact h1.elim
theorem HJ {A : Nat → Prop} {gs : Nat → Option Nat} {r : List RS} {v : Value} (hv : Q5w w A gs r v) : ∃ us, Nl w A gs 0 (QP r) us ∧
  ∀ (cx : Cx) (h : Qw → Option Bk), (∀ k x u, (QP r)[k]? = some x → us[k]? = some u → RC cx w h (adC d k x) u) → RT cx w h (IG d r) v := by
 have gen : ∀ ts : List RS, (∃ vs, v = .tuple vs ∧ TsR w A gs 0 ts vs.toList) → ∃ us, Nl w A gs 0 (QP ts) us ∧ ∀ (cx : Cx) (h : Qw → Option Bk), (∀ k x u, (QP ts)[k]? = some x → us[k]? = some u → RC cx w h (adC d k x) u) → RT cx w h (.tup (Q5x d 0 ts)) v := by
  rintro ts ⟨vs, rfl, h1⟩
  refine ⟨_, Qrk h1, fun cx h hc => ?_⟩
  obtain ⟨h2, h3⟩ := ts_rt (d := d) (cx := cx) (h := h) h1 (fun k x u hk hu => by rw [Nat.zero_add]; exact hc k x u hk hu)
  exact ⟨vs, rfl, by simpa using h2, fun i t hi => let ⟨u, hu, hr⟩ := h3 i t hi; ⟨u, by simpa using hu, hr⟩⟩
 match r, hv with
 | [t], hv =>
  refine ⟨Lm t v, by simpa [QP] using Q17 hv, fun cx h hc => ?_⟩
  exact Qew (Qvr hv (fun k x u hk hu => by rw [Nat.zero_add]; exact hc k x u (by simpa [QP] using hk) hu))
 | [], hv => exact gen [] hv
 | t :: t2 :: ts, hv => exact gen (t :: t2 :: ts) hv
end
section
variable {E : En} {N : Nat} {cx : Cx} {st : St} {a : Act} {w w' : World} {P : Program} {T : Tb P} {ops : Array Oper} {o : Oper} {d : Nat} {ty : Nat} {pos : String} {af : Array Edge} {gd : Option (Nat × Bool)}
theorem ιOf_in {go : Option Nat} {u : Value} {g q : Nat} (h : ιOf go u = some (g, q)) : go = some g ∧ q = 0 := by
 unfold ιOf at h
 split at h
 ·cases h
 ·rw [Option.map_eq_some_iff] at h
  obtain ⟨x, h1, h2⟩ := h
  cases h2
  exact ⟨h1, rfl⟩
theorem Q0a (hr : Xx E N cx st a w) (hd : ∀ d, o.dst = some d → d < N) (hdN : d < N) {r : List RS} {us : List Value} {v : Value} {A2 : Nat → Prop} {gs2 : Nat → Option Nat} {fz : List Qw}
  (hfresh : ∀ (n e : Nat) (rows : List (List PV)), (QP r)[n]? = some (.own e rows) → WA (d, n) st) (hA2 : ∀ x, cx.A x → A2 x)
  (hA2' : ∀ x, A2 x → cx.A x ∨ (w.heap.size ≤ x ∧ x < w'.heap.size) ∨ ∃ b ∈ fz, st.h b ≠ none ∧ ∃ q, cx.ι b = some (x, q))
  (hfz : ∀ b ∈ fz, (∃ e rows mu, st.h b = some (.row e rows mu)) ∧ ∀ g q, cx.ι b = some (g, q) → A2 g)
  (hsz : w.heap.size ≤ w'.heap.size) (hkept : ∀ x, x < w.heap.size → w'.heap[x]? = w.heap[x]?) (hos : w'.os = w.os) (htp : w'.tape = w.tape) (hou : w'.output = w.output)
  (hinj : Q9v gs2) (hgs : ∀ n x, gs2 n = some x → w.heap.size ≤ x ∧ x < w'.heap.size) (hval : Nl w' A2 gs2 0 (QP r) us)
  (hrt : ∀ (cx : Cx) (h : Qw → Option Bk), (∀ k x u, (QP r)[k]? = some x → us[k]? = some u → RC cx w' h (adC d k x) u) → RT cx w' h (IG d r) v) :
  ∃ cx', Xx E N cx' (Ef.ap ⟨IG d r, AX d 0 (QP r) ++ YJ st fz⟩ o st) (a.put o.dst v) w' := by
 obtain ⟨hul, hua⟩ := DO hval
 have hkeep : Xg cx.A w w' := ⟨hsz, fun g hA hg => hkept g hg, .kept hkept⟩
 -- the blocks behind
 have hh : ∀ b, (Ef.ap ⟨IG d r, AX d 0 (QP r) ++ YJ st fz⟩ o st).h b = match (if b.1 = d then (QP r)[b.2]? else none) with
   | some (.own e rows) => some (.row e rows true)
   | _ => if b ∈ fz then frz (st.h b) else st.h b := by
  intro b
  unfold St.h Ef.ap
  rw [List.append_assoc, VQ, VQ, WB, Q9w]
  by_cases hb : b.1 = d
  ·rw [if_pos ⟨hb, Nat.zero_le _⟩, if_pos hb, Nat.sub_zero]
   cases hx : (QP r)[b.2]? with
   | none => simp only [Option.none_or]; split <;> rfl
   | some x =>
    cases x with
    | p p => simp only [Option.none_or]; split <;> rfl
    | own e rows => rfl
  ·rw [if_neg (fun h => hb h.1), if_neg hb]
   simp only [Option.none_or]
   split <;> rfl
 -- which are new
 let nw : Qw → Bool := fun b => match (if b.1 = d then (QP r)[b.2]? else none) with
  | some (.own _ _) => true
  | _ => false
 have hnw : ∀ b, nw b = true → ∃ n e rows, b = (d, n) ∧ (QP r)[n]? = some (.own e rows) := by
  intro b hb
  simp only [nw] at hb
  by_cases h1 : b.1 = d
  ·rw [if_pos h1] at hb
   cases hx : (QP r)[b.2]? with
   | none => rw [hx] at hb; cases hb
   | some x =>
    rw [hx] at hb
    cases x with
    | p p => cases hb
    | own e rows => exact ⟨b.2, e, rows, by rw [← h1], hx⟩
  ·rw [if_neg h1] at hb; cases hb
 have hnw2 : ∀ n e rows, (QP r)[n]? = some (.own e rows) → nw (d, n) = true := by
  intro n e rows h
  simp only [nw, if_true, h]
 have hh1 : ∀ b, nw b = false → (Ef.ap ⟨IG d r, AX d 0 (QP r) ++ YJ st fz⟩ o st).h b = if b ∈ fz then frz (st.h b) else st.h b := by
  intro b hb
  rw [hh]
  simp only [nw] at hb
  revert hb
  generalize (if b.1 = d then (QP r)[b.2]? else none) = y
  intro hb
  match y, hb with
  | none, _ => rfl
  | some (.p _), _ => rfl
  | some (.own _ _), hb => cases hb
 have hh2 : ∀ n e rows, (QP r)[n]? = some (.own e rows) → (Ef.ap ⟨IG d r, AX d 0 (QP r) ++ YJ st fz⟩ o st).h (d, n) = some (.row e rows true) := by
  intro n e rows h
  rw [hh]
  simp only [if_true, h]
 -- what was live
 have hold : ∀ b, nw b = false → (Ef.ap ⟨IG d r, AX d 0 (QP r) ++ YJ st fz⟩ o st).h b ≠ none → st.h b ≠ none := by
  intro b hb h
  rw [hh1 b hb] at h
  split at h
  ·intro e; rw [e] at h; exact h rfl
  ·exact h
 let cx2 : Cx := ⟨fun b => if nw b = true then ιOf (gs2 b.2) ((us[b.2]?).getD undef) else cx.ι b, A2⟩
 have hι1 : ∀ b, nw b = true → cx2.ι b = ιOf (gs2 b.2) ((us[b.2]?).getD undef) := fun b h => by show (if nw b = true then _ else _) = _; rw [if_pos h]
 have hι2 : ∀ b, nw b = false → cx2.ι b = cx.ι b := fun b h => by show (if nw b = true then _ else _) = _; rw [if_neg (by rw [h]; simp)]
 refine ⟨cx2, hr.step (ef := ⟨IG d r, AX d 0 (QP r) ++ YJ st fz⟩) hd ((AX d 0 (QP r)).map (·.1)) (fun b hb => ?_) hA2 (fun x hx => ?_) hkeep (fun g hg _ => hkept g (Nat.lt_of_lt_of_le hg hr.sz)) hos htp hou (fun b hb => ?_) (fun b bk hb => ?_) (fun b b' g q g' q' hb hb' hi hi' hne => ?_) (fun b g q hb hi => ?_) ?_ ?_⟩
 ·obtain ⟨y, hy⟩ := HE hb
  rw [WB] at hy
  split at hy
  ·rename_i h1
   rw [Nat.sub_zero] at hy
   cases hx : (QP r)[b.2]? with
   | none => rw [hx] at hy; cases hy
   | some x =>
    rw [hx] at hy
    cases x with
    | p p => cases hy
    | own e rows =>
     have := hfresh b.2 e rows hx
     obtain ⟨b1, b2⟩ := b
     simp only at h1
     rw [← h1.1] at this
     exact this
  ·cases hy
 ·rcases hA2' x hx with h | h | ⟨b, hb, hbl, q, hq⟩
  ·exact .inl h
  ·exact .inr ⟨h.2, .inl (Nat.le_trans hr.sz h.1)⟩
  ·obtain ⟨h1, h2⟩ := hr.own b x q hbl hq
   exact .inr ⟨Nat.lt_of_lt_of_le h1 hsz, h2⟩
 ·have hb' : nw b = false := by
   cases h : nw b with
   | false => rfl
   | true =>
    obtain ⟨n, e, rows, rfl, h1⟩ := hnw b h
    exfalso
    refine hb ?_
    have := WB d (QP r) 0 (d, n)
    rw [if_pos ⟨rfl, Nat.zero_le _⟩, Nat.sub_zero, h1] at this
    exact List.mem_map.2 ⟨_, YH this, rfl⟩
  intro bk' hbk
  rw [hh1 b hb'] at hbk
  have hex : ∃ bk, st.h b = some bk ∧ bk.e = bk'.e ∧ bk.len ≤ bk'.len := by
   split at hbk
   ·rename_i hf
    obtain ⟨⟨e, rows, mu, h1⟩, _⟩ := hfz b hf
    rw [h1] at hbk ⊢
    cases hbk
    exact ⟨_, rfl, rfl, Nat.le_refl _⟩
   ·exact ⟨bk', hbk, rfl, Nat.le_refl _⟩
  obtain ⟨bk, h1, h2, h3⟩ := hex
  refine ⟨bk, h1, h2, h3, hι2 b hb', fun g q c el fz' h4 h5 => ⟨c, el, fz', ?_, fun _ => rfl⟩⟩
  rw [hkept g (Array.getElem?_eq_some_iff.1 h5).1]; exact h5
 ·cases hb' : nw b with
  | true =>
   obtain ⟨n, e, rows, rfl, h1⟩ := hnw b hb'
   rw [hh2 n e rows h1] at hb
   cases hb
   obtain ⟨u, hu, h2, h3⟩ := hua n _ h1
   refine .inr (Pb (cx := cx2) (go := gs2 n) (u := u) ?_ ?_)
   ·rw [Nat.zero_add] at h3; exact h3
   ·rw [hι1 _ hb']; simp [hu]
  | false =>
   have hb0 := hb
   rw [hh1 b hb'] at hb
   split at hb
   ·rename_i hf
    obtain ⟨⟨e, rows, mu, h1⟩, h2⟩ := hfz b hf
    rw [h1] at hb
    cases hb
    right
    obtain ⟨h3, h4, h5⟩ := hr.bl b _ h1
    refine ⟨h3, h4, ?_⟩
    rw [hι2 b hb']
    revert h5
    cases hi : cx.ι b with
    | none => exact id
    | some y =>
     obtain ⟨g, q⟩ := y
     rintro ⟨rfl, c, el, fz', capR, h6, h7, h8, h9, h10, h11, h12⟩
     have hgl := (Array.getElem?_eq_some_iff.1 h6).1
     exact ⟨rfl, c, el, fz', capR, by rw [hkept g hgl]; exact h6, (fun h => by cases h), fun _ => h2 g 0 hi, h9, h10, h11, fun i r k p hi hk => let ⟨cv, hcv, hp⟩ := h12 i r k p hi hk; ⟨cv, hcv, hp.keeps hA2 hkeep⟩⟩
   ·rename_i hf
    refine .inl ⟨?_, hb, hι2 b hb', fun g q hi => ?_⟩
    ·intro hm
     obtain ⟨y, hy⟩ := HE hm
     rw [WB] at hy
     split at hy
     ·rename_i h1
      rw [Nat.sub_zero] at hy
      simp only [nw] at hb'
      rw [if_pos h1.1] at hb'
      revert hb' hy
      generalize (QP r)[b.2]? = z
      intro hb' hy
      match z, hb', hy with
      | none, _, hy => cases hy
      | some (.p _), _, hy => cases hy
      | some (.own _ _), hb', _ => cases hb'
     ·cases hy
    ·have hlive : st.h b ≠ none := by rw [hb]; simp
     obtain ⟨h1, h2⟩ := hr.own b g q hlive hi
     refine ⟨hkept g h1, fun hnA hA => ?_⟩
     rcases hA2' g hA with h | h | ⟨b2, hb2, hb2l, q2, hq2⟩
     ·exact hnA h
     ·omega
     ·refine hr.inj b b2 g q g q2 hlive hb2l hi hq2 ?_ rfl
      rintro rfl
      exact hf hb2
 ·have hnew : ∀ b g q, nw b = true → cx2.ι b = some (g, q) → w.heap.size ≤ g ∧ gs2 b.2 = some g := by
   intro b g q h1 h2
   rw [hι1 b h1] at h2
   obtain ⟨h3, h4⟩ := ιOf_in h2
   exact ⟨(hgs _ _ h3).1, h3⟩
  have hol : ∀ b g q, nw b = false → (Ef.ap ⟨IG d r, AX d 0 (QP r) ++ YJ st fz⟩ o st).h b ≠ none → cx2.ι b = some (g, q) → g < w.heap.size := by
   intro b g q h1 h2 h3
   rw [hι2 b h1] at h3
   exact (hr.own b g q (hold b h1 h2) h3).1
  cases h1 : nw b <;> cases h2 : nw b'
  ·rw [hι2 b h1] at hi
   rw [hι2 b' h2] at hi'
   exact hr.inj b b' g q g' q' (hold b h1 hb) (hold b' h2 hb') hi hi' hne
  ·have := hol b g q h1 hb hi
   have := (hnew b' g' q' h2 hi').1
   omega
  ·have := hol b' g' q' h2 hb' hi'
   have := (hnew b g q h1 hi).1
   omega
  ·obtain ⟨n, e, rows, rfl, _⟩ := hnw b h1
   obtain ⟨n', e', rows', rfl, _⟩ := hnw b' h2
   rintro rfl
   have e1 := (hnew _ _ _ h1 hi).2
   have e2 := (hnew _ _ _ h2 hi').2
   have := hinj n n' g e1 e2
   exact hne (by rw [this])
 ·cases h1 : nw b with
  | true =>
   rw [hι1 b h1] at hi
   obtain ⟨h3, h4⟩ := ιOf_in hi
   obtain ⟨h5, h6⟩ := hgs _ _ h3
   exact ⟨h6, .inl (Nat.le_trans hr.sz h5)⟩
  | false =>
   rw [hι2 b h1] at hi
   obtain ⟨h3, h4⟩ := hr.own b g q (hold b h1 hb) hi
   exact ⟨Nat.lt_of_lt_of_le h3 hsz, h4⟩
 ·refine hrt cx2 _ (fun k x u hk hu => ?_)
  obtain ⟨u', hu', h1, h2⟩ := hua k x hk
  rw [hu] at hu'
  cases hu'
  rw [Nat.zero_add] at h2
  cases x with
  | p p => exact h2
  | own e rows =>
   have hn := hnw2 k e rows hk
   exact P9 (cx := cx2) h2 (hh2 k e rows hk) (by rw [hι1 _ hn]; simp [hu])
 ·intro b hb
  refine hι2 b ?_
  cases h : nw b with
  | false => rfl
  | true =>
   obtain ⟨n, e, rows, h1, _⟩ := hnw b h
   have := hr.hN
   rcases hb with hb | hb
   ·rw [hb] at h1
    simp only [K5, Prod.mk.injEq] at h1
    omega
   ·rw [h1] at hb
    simp only at hb
    omega
theorem HK {f : FuncId} {xs : Array Operand} {tys : Array TypeId} {dst : Option Nat} (he : Lj P f = true) : (execOp a.eval ⟨dst, .call { callee := .value (.func f), args := xs, argTypes := tys }, ty, pos, af, gd⟩).run P w = .ok (.enter f (xs.map a.eval)) w := by
 unfold Lj at he
 cases hf : P.funcs[f]? with
 | none => rw [hf] at he; cases he
 | some fn =>
  rw [hf] at he
  simp only [Bool.and_eq_true, bne_iff_ne, ne_eq] at he
  have h1 := he.1
  have h2 := he.2
  cases hb : fn.body with
  | none => rw [hb] at h2; cases h2
  | some c => simp [execOp, resolve, Act.eval, Deferred.ofValue, invoke, callFunc, Sem.run_bind, Sem.run_pure, Result.andThen_ok, program, Sem.run, hf, h1, hb]
theorem Iy {st' : St} {c : CV} {x : RV} {bs : List Qw} (h : ToC st c x none bs) (hb : ∀ b ∈ bs, st'.h b = st.h b) : ToC st' c x none bs := by
 cases h with
 | p x => exact .p x
 | nil e => exact .nil e
 | nilo e he => exact .nilo e he
 | fr h1 h2 => exact .fr (by rw [hb _ (by simp)]; exact h1) h2
theorem PD {st' : St} {cs : List CV} {xs : List PV} {bs : List Qw} (h : Gp st cs xs bs) (hb : ∀ b ∈ bs, st'.h b = st.h b) : Gp st' cs xs bs := by
 induction h with
 | nil => exact .nil
 | cons h hs ih => exact .cons (Iy h fun b hm => hb b (List.mem_append_left _ hm)) (ih fun b hm => hb b (List.mem_append_right _ hm))
theorem Ln {st' : St} {ts : List TV} {xs : List AV} {bs : List Qw} (h : MA st ts xs bs) (hb : ∀ b ∈ bs, st'.h b = st.h b) : MA st' ts xs bs := by
 induction h with
 | nil => exact .nil
 | cons h hs ih =>
  refine .cons ?_ (ih fun b hm => hb b (List.mem_append_right _ hm))
  cases h with
  | c h => exact .c (Iy h fun b hm => hb b (List.mem_append_left _ hm))
  | agg h => exact .agg (PD h fun b hm => hb b (List.mem_append_left _ hm))
theorem Iz {cs : List CV} {xs : List PV} {bs : List Qw} (h : Gp st cs xs bs) : AQ st cs (xs.map .p) (xs.map fun _ => none) bs := by
 induction h with
 | nil => exact .nil
 | cons h hs ih => exact .cons h ih
theorem AY {c : CV} {x : RV} {o : Option Qw} {bs : List Qw} (h : ToC st c x o bs) : ∀ b ∈ bs, ∃ e rows mu, st.h b = some (.row e rows mu) := by
 cases h with
 | p x => simp
 | nil e => simp
 | nilo e he => simp
 | own h1 h2 => simp
 | fr h1 h2 => intro b hb; rw [List.mem_singleton.1 hb]; exact ⟨_, _, _, h1⟩
theorem Np {cs : List CV} {xs : List PV} {bs : List Qw} (h : Gp st cs xs bs) : ∀ b ∈ bs, ∃ e rows mu, st.h b = some (.row e rows mu) := by
 induction h with
 | nil => simp
 | cons h hs ih =>
  intro b hb
  rcases List.mem_append.1 hb with hb | hb
  ·exact AY h b hb
  ·exact ih b hb
theorem Nq {ts : List TV} {xs : List AV} {bs : List Qw} (h : MA st ts xs bs) : ∀ b ∈ bs, ∃ e rows mu, st.h b = some (.row e rows mu) := by
 induction h with
 | nil => simp
 | cons h hs ih =>
  intro b hb
  rcases List.mem_append.1 hb with hb | hb
  ·cases h with
   | c h => exact AY h b hb
   | agg h => exact Np h b hb
  ·exact ih b hb
theorem PE (hr : Xx E N cx st a w) {A' : Nat → Prop} (hA : ∀ x, cx.A x → A' x) {gs : Nat → Option Nat} {g q : Nat} : ∀ {ts : List TV} {xs : List AV} {bs : List Qw}, MA st ts xs bs → ∀ {vs : List Value}, (∀ b ∈ bs, ∀ g q, cx.ι b = some (g, q) → A' g) →
  vs.length = ts.length → (∀ (i : Nat) (t : TV), ts[i]? = some t → ∃ v, vs[i]? = some v ∧ RT cx w st.h t v) → AsR w A' gs g q xs vs := by
 intro ts xs bs h
 induction h with
 | nil =>
  intro vs _ hl _
  cases vs with
  | nil => trivial
  | cons v vs => simp at hl
 | cons h hs ih =>
  intro vs hb hl hv
  cases vs with
  | nil => simp at hl
  | cons v vs =>
   refine ⟨?_, ih (fun b hm => hb b (List.mem_append_right _ hm)) (by simpa using hl) (fun i t hi => hv (i + 1) t (by simpa using hi))⟩
   obtain ⟨v', hv', h1⟩ := hv 0 _ rfl
   rw [List.getElem?_cons_zero] at hv'
   cases hv'
   cases h with
   | c h => exact Mw hr h h1.2 hA (fun b hm => hb b (List.mem_append_left _ hm)) (fun b hm => by cases hm)
   | agg h =>
    obtain ⟨us, rfl, h2⟩ := h1
    refine ⟨us, rfl, DR hr hA (Iz h) (fun b hm => hb b (List.mem_append_left _ hm)) (fun b hm => ?_) (fun k o hk => ?_) (by simpa using h2.1) (fun i c hi => ?_)⟩
    ·rw [List.mem_map] at hm; obtain ⟨x, _, hx⟩ := hm; cases hx
    ·rw [List.getElem?_map, Option.map_eq_some_iff] at hk
     obtain ⟨x, _, rfl⟩ := hk
     rfl
    ·obtain ⟨u, hu, h3, h4⟩ := h2.2 i c hi
     exact ⟨u, by simpa using hu, h3, h4⟩
theorem Qiz {A A2 : Nat → Prop} {p : PV} {v : Value} (h : RP w A p v) (hn : noL p = true) : RP w A2 p v := by
 cases h with
 | v _ hx => exact .v _ hx
 | l => cases hn
 | o _ hx => exact .o _ hx
theorem HL {f : FuncId} {xs : Array Operand} {tys : Array TypeId} {avs : List AV} {r : List RS} {bs : List Qw} {ids : List Qw} {bl : List (Qw × Option Bk)} {t : TV} (hcon : Va P f avs r []) (hn : avs.any AV.isRef = false := by exact rfl) (hok : xs.toList.all Zf = true := by exact rfl) (hargs : MA st (xs.toList.map st.ev) avs bs)
  (hids : (AX d 0 (QP r)).map (·.1) = ids := by exact rfl) (hbl : AX d 0 (QP r) ++ YJ st bs = bl := by exact rfl) (ht : IG d r = t := by exact rfl) :
  ZC E N P ops ⟨some d, .call { callee := .value (.func f), args := xs, argTypes := tys }, ty, pos, af, gd⟩ st ⟨bs, ids⟩ ⟨t, bl⟩ := by
 subst hids
 subst hbl
 subst ht
 intro st' ha hf hd cx a w Q hr
 have hbe : ∀ b ∈ bs, st'.h b = st.h b := ha.2
 have hargs' := Ln hargs hbe
 have hlive := Nq hargs'
 let A2 : Nat → Prop := fun x => cx.A x ∨ ∃ b ∈ bs, st'.h b ≠ none ∧ ∃ q, cx.ι b = some (x, q)
 have hbn : ∀ b ∈ bs, st'.h b ≠ none := fun b hb => by obtain ⟨_, _, _, h⟩ := hlive b hb; rw [h]; simp
 have hAs : AsR w A2 (fun _ => none) w.heap.size 0 avs (xs.map a.eval).toList := by
  refine PE hr (fun x hx => .inl hx) hargs' (fun b hb g q hg => .inr ⟨b, hb, hbn b hb, q, hg⟩) (by simp) (fun i t hi => ?_)
  rw [List.getElem?_map, Option.map_eq_some_iff] at hi
  obtain ⟨x, hx, rfl⟩ := hi
  have hm := List.mem_of_getElem? hx
  refine ⟨a.eval x, by rw [Array.toList_map, List.getElem?_map, hx]; rfl, ?_⟩
  rw [← JK ha (x := x) (by simp only [Op.operands, Call.operands]; simp at hm ⊢; exact .inr hm)]
  exact hr.ev (List.all_eq_true.1 hok x hm)
 have hAsz : ∀ x, A2 x → x < w.heap.size := by
  rintro x (h | ⟨b, hb, hbl, q, hq⟩)
  ·exact (hr.A x h).1
  ·exact (hr.own b x q hbl hq).1
 have hfl : YJ st bs = YJ st' bs := List.map_congr_left fun b hb => by rw [hbe b hb]
 unfold Oper.wp
 rw [HK hcon.ent, Oper.upon_enter]
 refine (hcon.run A2 (fun _ => none) w.heap.size 0 w (xs.map a.eval) hAsz (fun n m x h => by cases h) (fun n x h => by cases h) (fun _ => ⟨fun _ => rfl, rfl⟩) hAs).mono ?_
 rintro e w' ⟨v, A', gs', rfl, h1, h2, h3, h4, h5, h6, h7, h8, h9, h10, _⟩
 obtain ⟨us, hus, hrt⟩ := HJ (d := d) h10
 show ∃ cx', _
 rw [hfl]
 refine Q0a hr hd (hd d rfl) (fz := bs) (gs2 := gs') (us := us) (A2 := A') (fun n e rows hx => hf (d, n) ?_) (fun x hx => h1 x (.inl hx)) (fun x hx => ?_) (fun b hb => ⟨hlive b hb, fun g q hg => h1 g (.inr ⟨b, hb, hbn b hb, q, hg⟩)⟩) h3
  (fun x hx => h4 x hx (by omega) (fun n h => by cases h)) h5.1 h6 h7 h8 (fun n x hx => ?_) hus hrt
 ·have := WB d (QP r) 0 (d, n)
  rw [if_pos ⟨rfl, Nat.zero_le _⟩, Nat.sub_zero, hx] at this
  exact List.mem_map.2 ⟨_, YH this, rfl⟩
 ·rcases h2 x hx with (h | ⟨b, hb, hbl, q, hq⟩) | ⟨h, h' | ⟨n, h'⟩⟩
  ·exact .inl h
  ·exact .inr (.inr ⟨b, hb, hbl, q, hq⟩)
  ·exact .inr (.inl ⟨h', h⟩)
  ·cases h'
 ·obtain ⟨h11, _, h12 | ⟨m, h12⟩⟩ := h9 n x hx
  ·exact ⟨h12, h11⟩
  ·cases h12
theorem V4 {f : FuncId} {xs : Array Operand} {tys : Array TypeId} {avs : List AV} {r : List RS} {bs : List Qw} {ids : List Qw} {bl : List (Qw × Option Bk)} {t : TV} (hcon : Va P f avs r []) (hnl : NoLs (QP r)) (hn : avs.any AV.isRef = false := by exact rfl) (hok : xs.toList.all Zf = true := by exact rfl) (hargs : MA st (xs.toList.map st.ev) avs bs)
  (hids : (AX d 0 (QP r)).map (·.1) = ids := by exact rfl) (hbl : AX d 0 (QP r) = bl := by exact rfl) (ht : IG d r = t := by exact rfl) :
  ZC E N P ops ⟨some d, .call { callee := .value (.func f), args := xs, argTypes := tys }, ty, pos, af, gd⟩ st ⟨bs, ids⟩ ⟨t, bl⟩ := by
 subst hids
 subst hbl
 subst ht
 intro st' ha hf hd cx a w Q hr
 have hbe : ∀ b ∈ bs, st'.h b = st.h b := ha.2
 have hargs' := Ln hargs hbe
 have hlive := Nq hargs'
 let A2 : Nat → Prop := fun x => cx.A x ∨ ∃ b ∈ bs, st'.h b ≠ none ∧ ∃ q, cx.ι b = some (x, q)
 have hbn : ∀ b ∈ bs, st'.h b ≠ none := fun b hb => by obtain ⟨_, _, _, h⟩ := hlive b hb; rw [h]; simp
 have hAs : AsR w A2 (fun _ => none) w.heap.size 0 avs (xs.map a.eval).toList := by
  refine PE hr (fun x hx => .inl hx) hargs' (fun b hb g q hg => .inr ⟨b, hb, hbn b hb, q, hg⟩) (by simp) (fun i t hi => ?_)
  rw [List.getElem?_map, Option.map_eq_some_iff] at hi
  obtain ⟨x, hx, rfl⟩ := hi
  have hm := List.mem_of_getElem? hx
  refine ⟨a.eval x, by rw [Array.toList_map, List.getElem?_map, hx]; rfl, ?_⟩
  rw [← JK ha (x := x) (by simp only [Op.operands, Call.operands]; simp at hm ⊢; exact .inr hm)]
  exact hr.ev (List.all_eq_true.1 hok x hm)
 have hAsz : ∀ x, A2 x → x < w.heap.size := by
  rintro x (h | ⟨b, hb, hbl, q, hq⟩)
  ·exact (hr.A x h).1
  ·exact (hr.own b x q hbl hq).1
 unfold Oper.wp
 rw [HK hcon.ent, Oper.upon_enter]
 refine (hcon.run A2 (fun _ => none) w.heap.size 0 w (xs.map a.eval) hAsz (fun n m x h => by cases h) (fun n x h => by cases h) (fun _ => ⟨fun _ => rfl, rfl⟩) hAs).mono ?_
 rintro e w' ⟨v, A', gs', rfl, h1, h2, h3, h4, h5, h6, h7, h8, h9, h10, _⟩
 obtain ⟨us, hus, hrt⟩ := HJ (d := d) h10
 have hgs : ∀ n x, gs' n = some x → w.heap.size ≤ x ∧ x < w'.heap.size := fun n x hx => by
  obtain ⟨h11, _, h12 | ⟨m, h12⟩⟩ := h9 n x hx
  ·exact ⟨h12, h11⟩
  ·cases h12
 obtain ⟨hul, hua⟩ := DO hus
 have hus' : Nl w' cx.A gs' 0 (QP r) us := by
  refine Qzg hul (fun k x hk => ?_)
  obtain ⟨u, hu, h11, h12⟩ := hua k x hk
  refine ⟨u, hu, h11, ?_⟩
  have hx := hnl x (List.mem_of_getElem? hk)
  cases x with
  | p p => exact Qiz h12 hx
  | own e rows =>
   obtain ⟨q1, q2, a', cap, q3, q4, q5, q6⟩ := h12
   refine ⟨q1, q2, a', cap, q3, q4, q5, ?_⟩
   rcases q6 with q6 | ⟨g, c, el, q7, q8, q9, q10, q11, q12⟩
   ·exact .inl q6
   ·refine .inr ⟨g, c, el, q7, q8, fun hA => ?_, q10, q11, fun i r k p hi hk => ?_⟩
    ·have := (hr.A g hA).1
     have := (hgs _ _ q7).1
     omega
    ·obtain ⟨cv, hcv, hp⟩ := q12 i r k p hi hk
     exact ⟨cv, hcv, Qiz hp (hx r (List.mem_of_getElem? hi) p (List.mem_of_getElem? hk))⟩
 show ∃ cx', _
 have hfz : AX d 0 (QP r) = AX d 0 (QP r) ++ YJ st' [] := by simp [YJ]
 rw [hfz]
 refine Q0a hr hd (hd d rfl) (fz := []) (gs2 := gs') (us := us) (A2 := cx.A) (fun n e rows hx => hf (d, n) ?_) (fun x hx => hx) (fun x hx => .inl hx) (fun b hb => by cases hb) h3
  (fun x hx => h4 x hx (by omega) (fun n h => by cases h)) h5.1 h6 h7 h8 hgs hus' hrt
 have := WB d (QP r) 0 (d, n)
 rw [if_pos ⟨rfl, Nat.zero_le _⟩, Nat.sub_zero, hx] at this
 exact List.mem_map.2 ⟨_, YH this, rfl⟩
theorem Qcw {op : Op} {f : Fp} {t : TV} {fr : List (Nat × TV)} {H : List (Qw × Option Bk)} {bl : List (Qw × Option Bk)} {r : List Oper} {acc : List (Fp × Ef)} {K : List (Fp × Ef) → St → Prop} (hw : wn ops ⟨some d, op, ty, pos, af, gd⟩ ⟨fr, H⟩ = some true) (hop : ZC E N P ops ⟨some d, op, ty, pos, af, gd⟩ ⟨fr, H⟩ f ⟨t, bl⟩)
  (h : Ac E N P ops r ((f, ⟨t, bl⟩) :: acc) ⟨(d, t) :: fr, bl ++ H⟩ K) : Ac E N P ops (⟨some d, op, ty, pos, af, gd⟩ :: r) acc ⟨fr, H⟩ K := ⟨f, ⟨t, bl⟩, .inl ⟨hw, hop⟩, h⟩
end
end Go.Proofs.YtimfmcpbkdpmoaaGreat
