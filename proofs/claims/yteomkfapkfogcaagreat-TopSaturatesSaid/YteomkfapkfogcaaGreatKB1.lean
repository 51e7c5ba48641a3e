/- Parts of the proof, laid together. No condition. -/
import Derived.Test.YteomkfapkfogcaaGreatRows
import Derived.WalkKit
import Derived.WalkSpells
import Derived.Deep.QuietTactic
import Derived.BigQuiet
import Derived.Lib.Hide
import Derived.OpenShut
import Derived.Deep.AppendSrc
import Derived.Deep.RegionHeld3
import Derived.Deep.AppendLies
import Derived.Laws.BytesArg
import Derived.Orders
import Derived.Laws.Tables
import Derived.IntWalk
import Derived.Great.BuildSlice
import Derived.ChangeKeysEq
import Derived.Laws.StructEq
import Derived.Laws.IdiomStrings
import Derived.Laws.MakeOwn
import Derived.ScopeJumps
import Derived.Lib.SliceRun
import Derived.MapKept
set_option linter.unusedVariables false
set_option linter.unusedSimpArgs false
namespace Go.Proofs.YteomkfapkfogcaaGreat
open Go.RowKit
def gI (l : List Int) (i : Nat) : Int := l.getD i 0
def Ints (k : IntKind) (w : World) (v : Value) (l : List Int) : Prop :=
  ∃ a cap, v = .slice a l.length cap ∧ l.length ≤ cap ∧ cap ≤ maxLen ∧ (∀ n ∈ l, (Lit.int k n).wf = true) ∧
    (l = [] ∨ ∃ b off, a = some ⟨b, off, none⟩ ∧ b < w.heap.size ∧ ∀ i, i < l.length → w.cell? ⟨b, off + i, none⟩ = some (.int k (gI l i)))
def Drawn (w w' : World) : Prop := ∃ n, w' = w.drewN n
theorem Drawn.refl (w : World) : Drawn w w := ⟨0, rfl⟩
theorem Drawn.trans {a b c : World} (h : Drawn a b) (h' : Drawn b c) : Drawn a c := by
  obtain ⟨n, rfl⟩ := h
  obtain ⟨m, rfl⟩ := h'
  exact ⟨n + m, World.drewN_drewN _ _ _⟩
theorem Drawn.cell {w w' : World} (h : Drawn w w') (a : Addr) : w'.cell? a = w.cell? a := by obtain ⟨n, rfl⟩ := h; rfl
theorem Drawn.size {w w' : World} (h : Drawn w w') : w'.heap.size = w.heap.size := by obtain ⟨n, rfl⟩ := h; rfl
theorem kcell {W w1 : World} (hg : W.grownBy w1 none) {b o : Nat} {v : Value} (h : W.cell? ⟨b, o, none⟩ = some v) (hb : b < W.heap.size) : w1.cell? ⟨b, o, none⟩ = some v :=
  (World.cell?_of_block (w := W) (hg.block b hb (by simp))).trans h
theorem kfroz {W w1 : World} (hg : W.grownBy w1 none) {b o : Nat} {v : Bool} (h : W.frozen? ⟨b, o, none⟩ = v) (hb : b < W.heap.size) : w1.frozen? ⟨b, o, none⟩ = v :=
  (World.frozen?_of_block (w := W) (hg.block b hb (by simp))).trans h
theorem Ints.size {k : IntKind} {w : World} {v : Value} {l : List Int} (h : Ints k w v l) : l.length ≤ 9223372036854775807 := by
  obtain ⟨a, cap, _, h1, h2, _⟩ := h
  unfold maxLen at h2
  omega
def RCell (b : Nat) (x y z : Value) (w : World) : Prop := b < w.heap.size ∧ w.cell? ⟨b, 0, none⟩ = some x ∧ w.cell? ⟨b, 1, none⟩ = some y ∧ w.cell? ⟨b, 2, none⟩ = some z ∧ ∀ o, w.frozen? ⟨b, o, none⟩ = false
theorem RCell.keep {b : Nat} {x y z : Value} {w w' : World} (h : RCell b x y z w) (g : w.grownBy w' none) : RCell b x y z w' := by
  obtain ⟨h0, h1, h2, h3, h4⟩ := h
  exact ⟨Nat.lt_of_lt_of_le h0 g.size, kcell g h1 h0, kcell g h2 h0, kcell g h3 h0, fun o => kfroz g (h4 o) h0⟩
inductive PV where
  | v (x : Value)
  | l (e : Nat) (rows : List (List PV))
  | o (x : Value)
  | f (fid : Nat) (caps : List (List PV))
def atomB : Value → Bool
  | .bool _ => true
  | .int k n => (Lit.int k n).wf
  | .string s => decide (s.size ≤ maxLen)
  | .slice none 0 0 => true
  | .pointer none | .map none | .nilFunc | .nilIface => true
  | _ => false
inductive RP (w : World) (A : Nat → Prop) : PV → Value → Prop where
  | v (x : Value) (h : atomB x = true) : RP w A (.v x) x
  | l (e : Nat) (rows : List (List PV)) (a : Option Addr) (cap : Nat) (c : Nat → Nat → Value) (h1 : rows.length ≤ cap) (h2 : cap ≤ maxLen) (h3 : ∀ r ∈ rows, r.length = e)
      (h4 : rows = [] ∨ ∃ g off, a = some ⟨g, off, none⟩ ∧ A g ∧ g < w.heap.size ∧ ∀ i r k p, rows[i]? = some r → r[k]? = some p → w.cell? ⟨g, off + i * e + k, none⟩ = some (c i k))
      (h5 : ∀ i r k p, rows[i]? = some r → r[k]? = some p → RP w A p (c i k)) : RP w A (.l e rows) (.slice a rows.length cap)
  | o (x : Value) (h : x.oneCell' = true) : RP w A (.o x) x
  | f (fid : Nat) (caps : List (List PV)) (vs : Array Value) (g o : Nat → Nat) (c : Nat → Nat → Value) (h1 : vs.size = caps.length) (h2 : ∀ (i : Nat) (r : List PV), caps[i]? = some r → vs[i]? = some (.pointer (some ⟨g i, o i, none⟩)) ∧ A (g i) ∧ g i < w.heap.size)
      (h3 : ∀ (i : Nat) (r : List PV) (k : Nat) (p : PV), caps[i]? = some r → r[k]? = some p → w.cell? ⟨g i, o i + k, none⟩ = some (c i k)) (h4 : ∀ (i : Nat) (r : List PV) (k : Nat) (p : PV), caps[i]? = some r → r[k]? = some p → RP w A p (c i k)) : RP w A (.f fid caps) (.func (.func fid) #[] vs)
theorem RP.mono {w w' : World} {A A' : Nat → Prop} {p : PV} {v : Value} (h : RP w A p v) (hA : ∀ g, A g → A' g) (hs : w.heap.size ≤ w'.heap.size) (hb : ∀ g, A g → g < w.heap.size → w'.heap[g]? = w.heap[g]?) : RP w' A' p v := by
  induction h with
  | v x h => exact .v x h
  | o x h => exact .o x h
  | f fid caps vs g o c h1 h2 h3 h4 ih =>
    refine .f fid caps vs g o c h1 (fun i r hi => ?_) (fun i r k p hi hk => ?_) ih
    · obtain ⟨h5, h6, h7⟩ := h2 i r hi
      exact ⟨h5, hA _ h6, by omega⟩
    · obtain ⟨h5, h6, h7⟩ := h2 i r hi
      rw [World.cell?_of_block (w := w) (hb _ h6 h7)]; exact h3 i r k p hi hk
  | l e rows a cap c h1 h2 h3 h4 h5 ih =>
    refine .l e rows a cap c h1 h2 h3 ?_ ih
    rcases h4 with h4 | ⟨g, off, rfl, hg, hl, hc⟩
    · exact .inl h4
    · exact .inr ⟨g, off, rfl, hA g hg, by omega, fun i r k p hi hk => by rw [World.cell?_of_block (w := w) (hb g hg hl)]; exact hc i r k p hi hk⟩
theorem atomB_one {x : Value} (h : atomB x = true) : x.oneCell' = true := by
  cases x <;> simp_all [atomB, Value.oneCell']
theorem RP.one {w : World} {A : Nat → Prop} {p : PV} {v : Value} (h : RP w A p v) : v.oneCell' = true := by
  cases h with
  | v x h => exact atomB_one h
  | o x h => exact h
  | l => rfl
  | f => rfl
abbrev Bid := Nat × Nat
inductive CV where
  | any
  | p (x : PV)
  | ptr (b : Bid) (i k : Nat)
  | sl (b : Bid) (off n : Nat)
  | ep (row : List PV) (k : Nat)
  | mp (b : Bid)
inductive TV where
  | c (x : CV)
  | agg (cs : List CV)
  | tup (ts : List TV)
structure Frm where
  e : Nat
  i : Nat
  rows : List (List PV)
def FrR (w : World) (A : Nat → Prop) (c : Array Value) (o n : Nat) : Option Frm → Prop
  | none => o = 0
  | some f => o = f.i * f.e ∧ n = f.e ∧ 0 < f.e ∧ f.rows.length * f.e ≤ c.size ∧ (∀ r ∈ f.rows, r.length = f.e) ∧ ∀ (j : Nat) (r : List PV) (k : Nat) (p : PV), j ≠ f.i → f.rows[j]? = some r → r[k]? = some p → ∃ cv, c[j * f.e + k]? = some cv ∧ RP w A p cv
theorem FrR.imp {w w' : World} {A A' : Nat → Prop} {c : Array Value} {o n : Nat} {f : Option Frm} (hp : ∀ p v, RP w A p v → RP w' A' p v) (h : FrR w A c o n f) : FrR w' A' c o n f := by
  cases f with
  | none => exact h
  | some f =>
    obtain ⟨h1, h2, h3, h4, h5, h6⟩ := h
    exact ⟨h1, h2, h3, h4, h5, fun j r k p hj hr hk => let ⟨cv, h7, h8⟩ := h6 j r k p hj hr hk; ⟨cv, h7, hp p cv h8⟩⟩
theorem FrR.set {w : World} {A : Nat → Prop} {c c' : Array Value} {o n : Nat} {f : Option Frm} (hs : c'.size = c.size) (hc : ∀ k, k < o ∨ o + n ≤ k → c'[k]? = c[k]?) (h : FrR w A c o n f) : FrR w A c' o n f := by
  cases f with
  | none => exact h
  | some f =>
    obtain ⟨h1, h2, h3, h4, h5, h6⟩ := h
    refine ⟨h1, h2, h3, by rw [hs]; exact h4, h5, fun j r k p hj hr hk => ?_⟩
    obtain ⟨cv, h7, h8⟩ := h6 j r k p hj hr hk
    have hk2 := (List.getElem?_eq_some_iff.1 hk).1
    have hr2 := h5 r (List.mem_of_getElem? hr)
    refine ⟨cv, ?_, h8⟩
    rw [hc _ ?_]; · exact h7
    rcases Nat.lt_or_gt_of_ne hj with h | h
    · left
      have : (j + 1) * f.e ≤ f.i * f.e := Nat.mul_le_mul_right _ h
      rw [Nat.add_mul] at this; omega
    · right
      have : (f.i + 1) * f.e ≤ j * f.e := Nat.mul_le_mul_right _ h
      rw [Nat.add_mul] at this; omega
structure OPr where
  I : World → (Nat → Prop) → (Nat → Prop) → Nat → Prop
  mono : ∀ {w w' : World} {A A' S : Nat → Prop} {g : Nat}, I w A S g → (∀ x, A x → A' x) → w.heap.size ≤ w'.heap.size → (∀ x, A x → x < w.heap.size → w'.heap[x]? = w.heap[x]?) → (∀ x, S x → w'.heap[x]? = w.heap[x]?) → w'.heap[g]? = w.heap[g]? → (∀ x, S x → ¬ A' x) → ¬ A' g → I w' A' S g
inductive Bk where
  | row (e : Nat) (rows : List (List PV)) (mu : Bool)
  | box (cs : List CV) (f : Option Frm := none)
  | map (ks : List Int)
  | mv (es : List (Int × PV))
  | tab (e n : Nat) (cs : List CV)
  | obj (I : OPr) (e n : Nat)
def Bk.e : Bk → Nat
  | .row e _ _ => e
  | .tab e _ _ => e
  | .obj _ e _ => e
  | _ => 0
def Bk.len : Bk → Nat
  | .row _ rows _ => rows.length
  | .tab _ n _ => n
  | .obj _ _ n => n
  | _ => 0
def Bk.noObj : Bk → Bool
  | .obj _ _ _ => false
  | _ => true
def lkN {α : Type} : List (Nat × α) → Nat → Option α
  | [], _ => none
  | (a, b) :: r, x => match Nat.beq a x with
    | true => some b
    | false => lkN r x
def beqB (a b : Bid) : Bool := Nat.beq a.1 b.1 && Nat.beq a.2 b.2
theorem beqB_iff {a b : Bid} : beqB a b = true ↔ a = b := by
  cases a; cases b; simp [beqB]
def lkB {α : Type} : List (Bid × α) → Bid → Option α
  | [], _ => none
  | (a, b) :: r, x => match beqB a x with
    | true => some b
    | false => lkB r x
structure St where
  fr : List (Nat × TV)
  H : List (Bid × Option Bk)
def St.g (st : St) (s : Nat) : TV := (lkN st.fr s).getD (.c .any)
def St.h (st : St) (b : Bid) : Option Bk := (lkB st.H b).getD none
structure Cx where
  ι : Bid → Option (Nat × Nat)
  A : Nat → Prop
  F : Bid → Nat → Prop
def RC (cx : Cx) (w : World) (h : Bid → Option Bk) : CV → Value → Prop
  | .any, _ => True
  | .p x, v => RP w cx.A x v
  | .ptr b i k, v => ∀ bk, h b = some bk → ∃ g o, cx.ι b = some (g, o) ∧ v = .pointer (some ⟨g, o + i * bk.e + k, none⟩)
  | .sl b off n, v => ∀ bk, h b = some bk → ∃ a cap, v = .slice a n cap ∧ n ≤ cap ∧ cap ≤ maxLen ∧ off + n ≤ bk.len ∧
      (cap = 0 ∨ ∃ g c el fz, cx.ι b = some (g, 0) ∧ a = some ⟨g, off * bk.e, none⟩ ∧ w.heap[g]? = some (.cells c el fz) ∧ (0 < bk.e → c.size = (off + cap) * bk.e))
  | .ep row k, v => ∃ g off, v = .pointer (some ⟨g, off + k, none⟩) ∧ cx.A g ∧ g < w.heap.size ∧ ∀ j p, row[j]? = some p → ∃ c, w.cell? ⟨g, off + j, none⟩ = some c ∧ RP w cx.A p c
  | .mp b, v => ∀ bk, h b = some bk → ∃ g, cx.ι b = some (g, 0) ∧ v = .map (some g)
def RL (cx : Cx) (w : World) (h : Bid → Option Bk) (cs : List CV) (vs : Array Value) : Prop :=
  vs.size = cs.length ∧ ∀ (i : Nat) (c : CV), cs[i]? = some c → ∃ u, vs[i]? = some u ∧ u.oneCell' = true ∧ RC cx w h c u
def RT1 (cx : Cx) (w : World) (h : Bid → Option Bk) : TV → Value → Prop
  | .c x, v => (x = .any ∨ v.oneCell' = true) ∧ RC cx w h x v
  | .agg cs, v => ∃ vs, v = .agg vs ∧ RL cx w h cs vs
  | .tup _, _ => False
def RT (cx : Cx) (w : World) (h : Bid → Option Bk) : TV → Value → Prop
  | .tup ts, v => ∃ vs : Array Value, v = .tuple vs ∧ vs.size = ts.length ∧ ∀ (i : Nat) (t : TV), ts[i]? = some t → ∃ u, vs[i]? = some u ∧ RT1 cx w h t u
  | .c x, v => (x = .any ∨ v.oneCell' = true) ∧ RC cx w h x v
  | .agg cs, v => ∃ vs, v = .agg vs ∧ RL cx w h cs vs
def RB (cx : Cx) (w : World) (h : Bid → Option Bk) (b : Bid) : Bk → Prop
  | .row e rows mu => 0 < e ∧ (∀ r ∈ rows, r.length = e) ∧ match cx.ι b with
    | none => rows = []
    | some (g, o) => o = 0 ∧ ∃ c el fz capR, w.heap[g]? = some (.cells c el fz) ∧ (mu = true → fz = (0, 0) ∧ ¬ cx.A g) ∧ (mu = false → cx.A g) ∧ c.size = capR * e ∧ rows.length ≤ capR ∧ capR ≤ maxLen ∧
        ∀ i r k p, rows[i]? = some r → r[k]? = some p → ∃ cv, c[i * e + k]? = some cv ∧ RP w cx.A p cv
  | .box cs f => ∃ g o c el, cx.ι b = some (g, o) ∧ w.heap[g]? = some (.cells c el (0, 0)) ∧ ¬ cx.A g ∧ o + cs.length ≤ c.size ∧ (∀ k x, cs[k]? = some x → ∃ cv, c[o + k]? = some cv ∧ cv.oneCell' = true ∧ RC cx w h x cv) ∧ FrR w cx.A c o cs.length f
  | .map ks => ∃ g es clk, cx.ι b = some (g, 0) ∧ w.heap[g]? = some (.map es clk) ∧ ¬ cx.A g ∧ es.toList.map (fun e => (e.key, e.val)) = ks.map (fun n => (Value.int .i64 n, Value.bool true))
  | .mv ks => ∃ (g : Nat) (es : Array MapEntry) (clk : Nat), cx.ι b = some (g, 0) ∧ w.heap[g]? = some (.map es clk) ∧ ¬ cx.A g ∧ es.toList.map (fun e => e.key) = ks.map (fun x => Value.int .i64 x.1) ∧ ∀ (i : Nat) (x : Int × PV), ks[i]? = some x → ∃ v, es[i]?.map (fun e => e.val) = some v ∧ v.oneCell' = true ∧ RP w cx.A x.2 v
  | .tab e n cs => ∃ g c el, cx.ι b = some (g, 0) ∧ w.heap[g]? = some (.cells c el (0, 0)) ∧ ¬ cx.A g ∧ cs.length = n * e ∧ cs.length ≤ c.size ∧ (∀ (k : Nat) (x : CV), cs[k]? = some x → ∃ cv, c[k]? = some cv ∧ cv.oneCell' = true ∧ RC cx w h x cv)
  | .obj _ _ _ => True
def OPr.ok (I : OPr) (w : World) (A S : Nat → Prop) (g : Nat) : Prop := I.I w A S g ∧ (∀ x, S x → x < w.heap.size ∧ ¬ A x ∧ x ≠ g) ∧ g < w.heap.size ∧ ¬ A g
theorem OPr.ok.mono {I : OPr} {w w' : World} {A A' S : Nat → Prop} {g : Nat} (h : I.ok w A S g) (hA : ∀ x, A x → A' x) (hs : w.heap.size ≤ w'.heap.size) (hb : ∀ x, A x → x < w.heap.size → w'.heap[x]? = w.heap[x]?) (hS : ∀ x, S x → w'.heap[x]? = w.heap[x]?) (hg : w'.heap[g]? = w.heap[g]?) (hn : ∀ x, S x → ¬ A' x) (hng : ¬ A' g) : I.ok w' A' S g :=
  ⟨I.mono h.1 hA hs hb hS hg hn hng, fun x hx => ⟨Nat.lt_of_lt_of_le (h.2.1 x hx).1 hs, hn x hx, (h.2.1 x hx).2.2⟩, Nat.lt_of_lt_of_le h.2.2.1 hs, hng⟩
structure En where
  w0 : World
  A0 : Nat → Prop
  M : Nat → Prop
  pin : Bid → Option (Nat × Nat)
def pinB : Bid := (65536, 0)
abbrev PinI (b : Bid) : Prop := b = pinB ∨ 65537 ≤ b.1
def SzK (w w' : World) : Prop := ∀ (g : Nat) (c : Array Value) (el : TypeId) (fz : Nat × Nat), w.heap[g]? = some (Obj.cells c el fz) → ∃ (c' : Array Value) (el' : TypeId) (fz' : Nat × Nat), w'.heap[g]? = some (Obj.cells c' el' fz') ∧ c'.size = c.size
theorem SzK.refl (w : World) : SzK w w := fun g c el fz h => ⟨c, el, fz, h, rfl⟩
theorem SzK.trans {w1 w2 w3 : World} (h : SzK w1 w2) (h' : SzK w2 w3) : SzK w1 w3 := fun g c el fz hg =>
  let ⟨c2, el2, fz2, h2, e2⟩ := h g c el fz hg
  let ⟨c3, el3, fz3, h3, e3⟩ := h' g c2 el2 fz2 h2
  ⟨c3, el3, fz3, h3, e3.trans e2⟩
theorem SzK.kept {w w' : World} (h : ∀ g, g < w.heap.size → w'.heap[g]? = w.heap[g]?) : SzK w w' := fun g c el fz hg => ⟨c, el, fz, (h g (Array.getElem?_eq_some_iff.1 hg).1).trans hg, rfl⟩
def Ob (E : En) (cx : Cx) (h : Bid → Option Bk) (w : World) : Prop :=
  ∀ b I e n, h b = some (.obj I e n) → (∃ g, cx.ι b = some (g, 0) ∧ I.ok w cx.A (cx.F b) g) ∧ ∀ x, cx.F b x → (E.w0.heap.size ≤ x ∨ E.M x) ∧ (∀ b' g q, h b' ≠ none → cx.ι b' = some (g, q) → x ≠ g) ∧ ∀ b' I' e' n', h b' = some (.obj I' e' n') → cx.F b' x → b' = b
structure Rel (E : En) (N : Nat) (cx : Cx) (st : St) (a : Act) (w : World) : Prop where
  defers : a.defers = []
  size : a.tmps.size = N
  fr : ∀ s, RT cx w st.h (st.g s) (a.tmps.getD s undef)
  bl : ∀ b bk, st.h b = some bk → RB cx w st.h b bk
  inj : ∀ b b' g o g' o', st.h b ≠ none → st.h b' ≠ none → cx.ι b = some (g, o) → cx.ι b' = some (g', o') → b ≠ b' → g ≠ g'
  own : ∀ b g o, st.h b ≠ none → cx.ι b = some (g, o) → g < w.heap.size ∧ (E.w0.heap.size ≤ g ∨ E.M g)
  A : ∀ g, cx.A g → g < w.heap.size ∧ (E.A0 g ∨ E.w0.heap.size ≤ g ∨ E.M g)
  A0 : ∀ g, E.A0 g → cx.A g
  kept : ∀ g, g < E.w0.heap.size → ¬ E.M g → w.heap[g]? = E.w0.heap[g]?
  sz : E.w0.heap.size ≤ w.heap.size
  os : w.os = E.w0.os
  tape : w.tape = E.w0.tape
  output : w.output = E.w0.output
  hN : N ≤ 65536
  pin : ∀ b, PinI b → cx.ι b = E.pin b
  cz : SzK E.w0 w
  ob : Ob E cx st.h w
structure Keeps (A : Nat → Prop) (w w' : World) : Prop where
  sz : w.heap.size ≤ w'.heap.size
  bl : ∀ g, A g → g < w.heap.size → w'.heap[g]? = w.heap[g]?
  cz : SzK w w'
theorem RP.keeps {w w' : World} {A A' : Nat → Prop} {p : PV} {v : Value} (h : RP w A p v) (hA : ∀ g, A g → A' g) (hk : Keeps A w w') : RP w' A' p v := h.mono hA hk.sz hk.bl
structure Ef where
  t : TV
  bl : List (Bid × Option Bk)
structure Fp where
  rb : List Bid
  al : List Bid
def Ef.ap (ef : Ef) (o : Oper) (st : St) : St := ⟨o.dst.toList.map (·, ef.t) ++ st.fr, ef.bl ++ st.H⟩
def CV.ment : CV → List Bid
  | .ptr b _ _ | .sl b _ _ | .mp b => [b]
  | _ => []
def mentL (cs : List CV) : List Bid := cs.flatMap CV.ment
def TV.ment1 : TV → List Bid
  | .c x => x.ment
  | .agg cs => mentL cs
  | .tup _ => []
def TV.ment : TV → List Bid
  | .tup ts => ts.flatMap TV.ment1
  | .c x => x.ment
  | .agg cs => mentL cs
def Bk.ment : Bk → List Bid
  | .box cs _ => mentL cs
  | .tab _ _ cs => mentL cs
  | _ => []
def oment : Option Bk → List Bid
  | none => []
  | some b => b.ment
def Ef.mt (ef : Ef) : List Bid := ef.t.ment ++ (ef.bl.flatMap (fun x => oment x.2) ++ ef.bl.map (·.1))
def FreshB (b : Bid) (st : St) : Prop := st.h b = none ∧ (∀ s, b ∉ (st.g s).ment) ∧ ∀ b' bk, st.h b' = some bk → b ∉ bk.ment
def OpOK (E : En) (N : Nat) (P : Program) (o : Oper) (st : St) (ef : Ef) : Prop :=
  (∀ d, o.dst = some d → d < N) → ∀ cx a w Q, Rel E N cx st a w → o.wp P a w (fun a' w' => ∃ cx', Rel E N cx' (ef.ap o st) a' w') Q
def Agree (ops : Array Oper) (o : Oper) (f : Fp) (st st' : St) : Prop := (∀ s ∈ o.looksAt ops, st'.g s = st.g s) ∧ (∀ b ∈ f.rb, st'.h b = st.h b)
def OpL (E : En) (N : Nat) (P : Program) (ops : Array Oper) (o : Oper) (st : St) (f : Fp) (ef : Ef) : Prop :=
  ∀ st', Agree ops o f st st' → (∀ b ∈ f.al, FreshB b st') → OpOK E N P o st' ef
def wn (ops : Array Oper) (o : Oper) (st : St) : Option Bool :=
  match o.guard with
  | none => some true
  | some (j, want) => match (ops[j]?).bind (·.dst) with
    | none => none
    | some d => match st.g d with
      | .c (.p (.v (.bool b))) => some (b == want)
      | .tup [] => some false
      | _ => none
def OpAt (E : En) (N : Nat) (P : Program) (ops : Array Oper) (o : Oper) (st : St) (f : Fp) (ef : Ef) : Prop :=
  wn ops o st = some true ∧ OpL E N P ops o st f ef ∨ wn ops o st = some false ∧ True ∧ ef = ⟨.tup [], []⟩
theorem wn_agree {ops : Array Oper} {o : Oper} {st st' : St} (h : ∀ s ∈ o.looksAt ops, st'.g s = st.g s) : wn ops o st' = wn ops o st := by
  unfold wn
  cases hg : o.guard with
  | none => rfl
  | some x =>
    obtain ⟨j, want⟩ := x
    simp only
    cases hd : (ops[j]?).bind (·.dst) with
    | none => rfl
    | some d => simp only; rw [h d (by simp [Oper.looksAt, hg, hd])]
theorem wanted_of {E : En} {N : Nat} {cx : Cx} {ops : Array Oper} {o : Oper} {st : St} {a : Act} {w : World} {b : Bool} (hr : Rel E N cx st a w) (h : wn ops o st = some b) : Region.wanted o (yielded ops a.tmps) = b := by
  unfold wn at h
  unfold Region.wanted
  cases hg : o.guard with
  | none => simp only [hg] at h ⊢; exact Option.some.inj h
  | some x =>
    obtain ⟨j, want⟩ := x
    simp only [hg] at h ⊢
    cases hd : (ops[j]?).bind (·.dst) with
    | none => simp only [hd] at h; cases h
    | some d =>
      simp only [hd] at h
      have hf := hr.fr d
      split at h
      · rename_i bb hb
        rw [hb] at hf
        have hv : a.tmps.getD d undef = .bool bb := by
          revert hf
          generalize a.tmps.getD d undef = y
          intro hf
          cases hf.2 with | v _ _ => rfl
        have : a.tmps[d]? = some (.bool bb) := by
          cases hx : a.tmps[d]? with
          | none => rw [Array.getD_eq_getD_getElem?, hx] at hv; simp [undef] at hv
          | some y => rw [Array.getD_eq_getD_getElem?, hx] at hv; simpa using hv
        simp only [yielded, hd, Option.bind_some, this]
        have := Option.some.inj h
        rw [← this]
        cases bb <;> cases want <;> rfl
      · rename_i hb
        rw [hb] at hf
        obtain ⟨vs, hv, hz, _⟩ := hf
        have : yielded ops a.tmps j = none := by
          simp only [yielded, hd, Option.bind_some]
          cases hx : a.tmps[d]? with
          | none => rfl
          | some y =>
            rw [Array.getD_eq_getD_getElem?, hx] at hv
            simp only [Option.getD_some] at hv
            subst hv; rfl
        rw [this, ← Option.some.inj h]
        rfl
      · cases h
inductive Seq (E : En) (N : Nat) (P : Program) (ops : Array Oper) : List Oper → St → List (Fp × Ef) → St → Prop
  | nil (st : St) : Seq E N P ops [] st [] st
  | cons {o : Oper} {r : List Oper} {st st' : St} {f : Fp} {ef : Ef} {es : List (Fp × Ef)} (h : OpAt E N P ops o st f ef) (hr : Seq E N P ops r (ef.ap o st) es st') : Seq E N P ops (o :: r) st ((f, ef) :: es) st'
theorem lkN_append {α : Type} (l r : List (Nat × α)) (x : Nat) : lkN (l ++ r) x = (lkN l x).or (lkN r x) := by
  induction l with
  | nil => rfl
  | cons y l ih =>
    obtain ⟨a, b⟩ := y
    simp only [List.cons_append, lkN]
    cases Nat.beq a x
    · exact ih
    · rfl
theorem lkB_append {α : Type} (l r : List (Bid × α)) (x : Bid) : lkB (l ++ r) x = (lkB l x).or (lkB r x) := by
  induction l with
  | nil => rfl
  | cons y l ih =>
    obtain ⟨a, b⟩ := y
    simp only [List.cons_append, lkB]
    cases beqB a x
    · exact ih
    · rfl
theorem lkN_none {α : Type} {l : List (Nat × α)} {x : Nat} (h : x ∉ l.map (·.1)) : lkN l x = none := by
  induction l with
  | nil => rfl
  | cons y l ih =>
    obtain ⟨a, b⟩ := y
    simp only [List.map_cons, List.mem_cons, not_or] at h
    simp only [lkN]
    have : Nat.beq a x = false := by
      cases hb : Nat.beq a x with
      | false => rfl
      | true => exact absurd (Nat.eq_of_beq_eq_true hb).symm h.1
    rw [this]
    exact ih h.2
theorem lkB_none {α : Type} {l : List (Bid × α)} {x : Bid} (h : x ∉ l.map (·.1)) : lkB l x = none := by
  induction l with
  | nil => rfl
  | cons y l ih =>
    obtain ⟨a, b⟩ := y
    simp only [List.map_cons, List.mem_cons, not_or] at h
    simp only [lkB]
    have : beqB a x = false := by
      cases hb : beqB a x with
      | false => rfl
      | true => exact absurd (beqB_iff.1 hb).symm h.1
    rw [this]
    exact ih h.2
theorem lkN_mem {α : Type} {l : List (Nat × α)} {x : Nat} {y : α} (h : lkN l x = some y) : (x, y) ∈ l := by
  induction l with
  | nil => cases h
  | cons z l ih =>
    obtain ⟨a, b⟩ := z
    simp only [lkN] at h
    cases hb : Nat.beq a x with
    | false => rw [hb] at h; exact List.mem_cons_of_mem _ (ih h)
    | true => rw [hb] at h; cases h; rw [Nat.eq_of_beq_eq_true hb]; exact List.mem_cons_self
theorem lkB_mem {α : Type} {l : List (Bid × α)} {x : Bid} {y : α} (h : lkB l x = some y) : (x, y) ∈ l := by
  induction l with
  | nil => cases h
  | cons z l ih =>
    obtain ⟨a, b⟩ := z
    simp only [lkB] at h
    cases hb : beqB a x with
    | false => rw [hb] at h; exact List.mem_cons_of_mem _ (ih h)
    | true => rw [hb] at h; cases h; rw [beqB_iff.1 hb]; exact List.mem_cons_self
theorem ap_g {ef : Ef} {o : Oper} {st : St} {s : Nat} (h : o.dst ≠ some s) : (ef.ap o st).g s = st.g s := by
  unfold St.g Ef.ap
  rw [lkN_append, lkN_none]
  · rfl
  · cases hd : o.dst with
    | none => simp
    | some d => rw [hd] at h; simp; exact fun e => h (by rw [e])
theorem ap_g_in {ef : Ef} {o : Oper} {st : St} {s : Nat} (h : o.dst = some s) : (ef.ap o st).g s = ef.t := by
  unfold St.g Ef.ap
  simp [h, lkN]
theorem ap_h {ef : Ef} {o : Oper} {st : St} {b : Bid} (h : b ∉ ef.bl.map (·.1)) : (ef.ap o st).h b = st.h b := by
  unfold St.h Ef.ap
  rw [lkB_append, lkB_none h]; rfl
theorem lkB_in {α : Type} {l : List (Bid × α)} {x : Bid} (h : x ∈ l.map (·.1)) : ∃ y, lkB l x = some y := by
  induction l with
  | nil => simp at h
  | cons z l ih =>
    obtain ⟨a, b⟩ := z
    simp only [lkB]
    cases hb : beqB a x with
    | true => exact ⟨_, rfl⟩
    | false =>
      rcases List.mem_cons.1 h with h | h
      · rw [h] at hb; simp [beqB] at hb
      · exact ih h
theorem ap_h_in {ef : Ef} {o o' : Oper} {st st' : St} {s : Bid} (h : s ∈ ef.bl.map (·.1)) : (ef.ap o st).h s = (ef.ap o' st').h s := by
  unfold St.h Ef.ap
  obtain ⟨y, hy⟩ := lkB_in h
  rw [lkB_append, lkB_append, hy]; rfl
def Alike (st st' : St) : Prop := (∀ s, st'.g s = st.g s) ∧ ∀ b, st'.h b = st.h b
theorem Rel.alike {E : En} {N : Nat} {cx : Cx} {st st' : St} {a : Act} {w : World} (h : Rel E N cx st a w) (ha : Alike st st') : Rel E N cx st' a w := by
  have hh : st'.h = st.h := funext ha.2
  exact ⟨h.defers, h.size, fun s => by rw [hh, ha.1]; exact h.fr s, fun b bk hb => by rw [hh] at hb ⊢; exact h.bl b bk hb, fun b b' g o g' o' h1 h2 => by rw [hh] at h1 h2; exact h.inj b b' g o g' o' h1 h2,
    fun b g o h1 => by rw [hh] at h1; exact h.own b g o h1, h.A, h.A0, h.kept, h.sz, h.os, h.tape, h.output, h.hN, h.pin, h.cz, hh ▸ h.ob⟩
def apX (X : Nat → Bool) : Nat → List (Oper × Ef) → St → St
  | _, [], st => st
  | i, (o, ef) :: es, st => apX X (i + 1) es (if X i then ef.ap o st else st)
theorem apX_g {X Y : Nat → Bool} {s : Nat} : ∀ (l : List (Oper × Ef)) (i : Nat) (st st' : St), (∀ (j : Nat) (x : Oper × Ef), l[j]? = some x → x.1.dst = some s → X (i + j) = Y (i + j)) → st'.g s = st.g s → (apX Y i l st').g s = (apX X i l st).g s := by
  intro l
  induction l with
  | nil => intro i st st' _ h; exact h
  | cons x l ih =>
    intro i st st' hxy h
    obtain ⟨o, ef⟩ := x
    simp only [apX]
    refine ih (i + 1) _ _ (fun j x hj hd => by have := hxy (j + 1) x (by simpa using hj) hd; rw [Nat.add_assoc, Nat.add_comm 1 j]; exact this) ?_
    by_cases hd : o.dst = some s
    · have := hxy 0 (o, ef) rfl hd
      rw [Nat.add_zero] at this
      rw [this]
      split
      · rw [ap_g_in hd, ap_g_in hd]
      · exact h
    · split <;> split <;> simp only [ap_g hd, h]
theorem apX_h {X Y : Nat → Bool} {b : Bid} : ∀ (l : List (Oper × Ef)) (i : Nat) (st st' : St), (∀ (j : Nat) (x : Oper × Ef), l[j]? = some x → b ∈ x.2.bl.map (·.1) → X (i + j) = Y (i + j)) → st'.h b = st.h b → (apX Y i l st').h b = (apX X i l st).h b := by
  intro l
  induction l with
  | nil => intro i st st' _ h; exact h
  | cons x l ih =>
    intro i st st' hxy h
    obtain ⟨o, ef⟩ := x
    simp only [apX]
    refine ih (i + 1) _ _ (fun j x hj hd => by have := hxy (j + 1) x (by simpa using hj) hd; rw [Nat.add_assoc, Nat.add_comm 1 j]; exact this) ?_
    by_cases hd : b ∈ ef.bl.map (·.1)
    · have := hxy 0 (o, ef) rfl hd
      rw [Nat.add_zero] at this
      rw [this]
      split
      · exact ap_h_in hd
      · exact h
    · split <;> split <;> simp only [ap_h hd, h]
theorem apX_g_last {X : Nat → Bool} {s : Nat} {o : Oper} {ef : Ef} (hd : o.dst = some s) : ∀ (l : List (Oper × Ef)) (i k : Nat) (st : St), l[k]? = some (o, ef) → X (i + k) = true → (∀ (j : Nat) (x : Oper × Ef), k < j → l[j]? = some x → x.1.dst = some s → X (i + j) = false) → (apX X i l st).g s = ef.t := by
  intro l
  induction l with
  | nil => intro i k st h; simp at h
  | cons x l ih =>
    intro i k st h hX hj
    obtain ⟨o', ef'⟩ := x
    simp only [apX]
    cases k with
    | zero =>
      simp only [List.getElem?_cons_zero, Option.some.injEq, Prod.mk.injEq] at h
      obtain ⟨rfl, rfl⟩ := h
      rw [Nat.add_zero] at hX
      rw [hX, if_pos rfl]
      rw [apX_g (X := fun _ => false) (Y := X) l (i + 1) (ef'.ap o' st) (ef'.ap o' st) (fun j x hx hs => by have := hj (j + 1) x (by omega) (by simpa using hx) hs; rw [Nat.add_assoc, Nat.add_comm 1 j]; exact this.symm) rfl]
      have : ∀ (l : List (Oper × Ef)) (i : Nat) (st : St), apX (fun _ => false) i l st = st := by
        intro l
        induction l with
        | nil => intro i st; rfl
        | cons x l ih => intro i st; obtain ⟨a, b⟩ := x; simp only [apX]; exact ih _ _
      rw [this, ap_g_in hd]
    | succ k =>
      exact ih (i + 1) k _ (by simpa using h) (by rw [Nat.add_assoc, Nat.add_comm 1 k]; exact hX) (fun j x hk hx hs => by have := hj (j + 1) x (by omega) (by simpa using hx) hs; rw [Nat.add_assoc, Nat.add_comm 1 j]; exact this)
theorem apX_none : ∀ (l : List (Oper × Ef)) (i : Nat) (st : St), apX (fun _ => false) i l st = st := by
  intro l
  induction l with
  | nil => intro i st; rfl
  | cons x l ih => intro i st; obtain ⟨a, b⟩ := x; simp only [apX]; exact ih _ _
theorem apX_h_last {X : Nat → Bool} {b : Bid} {o o2 : Oper} {ef : Ef} {st2 : St} (hd : b ∈ ef.bl.map (·.1)) : ∀ (l : List (Oper × Ef)) (i k : Nat) (st : St), l[k]? = some (o, ef) → X (i + k) = true → (∀ (j : Nat) (x : Oper × Ef), k < j → l[j]? = some x → b ∈ x.2.bl.map (·.1) → X (i + j) = false) → (apX X i l st).h b = (ef.ap o2 st2).h b := by
  intro l
  induction l with
  | nil => intro i k st h; simp at h
  | cons x l ih =>
    intro i k st h hX hj
    obtain ⟨o', ef'⟩ := x
    simp only [apX]
    cases k with
    | zero =>
      simp only [List.getElem?_cons_zero, Option.some.injEq, Prod.mk.injEq] at h
      obtain ⟨rfl, rfl⟩ := h
      rw [Nat.add_zero] at hX
      rw [hX, if_pos rfl]
      rw [apX_h (X := fun _ => false) (Y := X) l (i + 1) (ef'.ap o' st) (ef'.ap o' st) (fun j x hx hs => by have := hj (j + 1) x (by omega) (by simpa using hx) hs; rw [Nat.add_assoc, Nat.add_comm 1 j]; exact this.symm) rfl, apX_none]
      exact ap_h_in hd
    | succ k =>
      exact ih (i + 1) k _ (by simpa using h) (by rw [Nat.add_assoc, Nat.add_comm 1 k]; exact hX) (fun j x hk hx hs => by have := hj (j + 1) x (by omega) (by simpa using hx) hs; rw [Nat.add_assoc, Nat.add_comm 1 j]; exact this)
theorem apX_fresh {X : Nat → Bool} {b : Bid} : ∀ (l : List (Oper × Ef)) (i : Nat) (st : St), FreshB b st → (∀ (j : Nat) (x : Oper × Ef), l[j]? = some x → X (i + j) = true → b ∉ x.2.mt) → FreshB b (apX X i l st) := by
  intro l
  induction l with
  | nil => intro i st h _; exact h
  | cons x l ih =>
    intro i st h hj
    obtain ⟨o, ef⟩ := x
    simp only [apX]
    refine ih (i + 1) _ ?_ (fun j x hx hX => hj (j + 1) x (by simpa using hx) (by rw [Nat.add_assoc, Nat.add_comm 1 j] at hX; exact hX))
    split
    · rename_i hX
      have hm := hj 0 (o, ef) rfl (by rw [Nat.add_zero]; exact hX)
      simp only [Ef.mt, List.mem_append, not_or] at hm
      obtain ⟨h1, h2, h3⟩ := h
      refine ⟨by rw [ap_h hm.2.2]; exact h1, fun s => ?_, fun b' bk hb => ?_⟩
      · by_cases hd : o.dst = some s
        · rw [ap_g_in hd]; exact hm.1
        · rw [ap_g hd]; exact h2 s
      · by_cases hk : b' ∈ ef.bl.map (·.1)
        · unfold St.h Ef.ap at hb
          obtain ⟨y, hy⟩ := lkB_in hk
          rw [lkB_append, hy] at hb
          simp only [Option.some_or, Option.getD_some] at hb
          subst hb
          have := hm.2.1
          simp only [List.mem_flatMap, not_exists, not_and] at this
          exact this _ (lkB_mem hy)
        · rw [ap_h hk] at hb; exact h3 b' bk hb
    · exact h
def preds (o : Oper) : List Nat := (o.after.toList.filter (Region.binds .any)).map (·.on)
def ancGo : List Oper → List (List Nat) → List (List Nat)
  | [], acc => acc
  | o :: r, acc => ancGo r (acc ++ [preds o ++ (preds o).flatMap (acc.getD · [])])
def memN : List Nat → Nat → Bool
  | [], _ => false
  | a :: r, x => Nat.beq a x || memN r x
theorem memN_iff {l : List Nat} {x : Nat} : memN l x = true ↔ x ∈ l := by
  induction l with
  | nil => simp [memN]
  | cons a r ih =>
    simp only [memN, Bool.or_eq_true, List.mem_cons, ih]
    constructor
    · rintro (h | h)
      · exact .inl (Nat.eq_of_beq_eq_true h).symm
      · exact .inr h
    · rintro (rfl | h)
      · exact .inl (by simp)
      · exact .inr h
def memB : List Bid → Bid → Bool
  | [], _ => false
  | a :: r, x => beqB a x || memB r x
theorem memB_iff {l : List Bid} {x : Bid} : memB l x = true ↔ x ∈ l := by
  induction l with
  | nil => simp [memB]
  | cons a r ih =>
    simp only [memB, Bool.or_eq_true, List.mem_cons, ih, beqB_iff]
    constructor
    · rintro (h | h)
      · exact .inl h.symm
      · exact .inr h
    · rintro (rfl | h)
      · exact .inl rfl
      · exact .inr h
def disB (l m : List Bid) : Bool := l.all fun x => !memB m x
theorem disB_spec {l m : List Bid} (h : disB l m = true) : ∀ x ∈ l, x ∉ m := by
  intro x hx hm
  have := List.all_eq_true.1 h x hx
  simp [memB_iff.2 hm] at this
def Ef.wb (ef : Ef) : List Bid := ef.bl.map (·.1)
def ltAll (i : Nat) (f : Nat → Bool) : Bool := match i with
  | 0 => true
  | i + 1 => f i && ltAll i f
theorem ltAll_spec {f : Nat → Bool} : ∀ {i : Nat}, ltAll i f = true → ∀ j, j < i → f j = true := by
  intro i
  induction i with
  | zero => intro _ j h; omega
  | succ i ih =>
    intro h j hj
    simp only [ltAll, Bool.and_eq_true] at h
    by_cases e : j = i
    · rw [e]; exact h.1
    · exact ih h.2 j (by omega)
def dO : Oper := default
def schS (N : Nat) (l : List Oper) : Bool :=
  ltAll l.length fun i => (l.getD i dO).dst.all (fun d => Nat.blt d N) && (preds (l.getD i dO)).all (fun p => Nat.blt p i) &&
    ltAll i fun j => (Oper.apart l.toArray (l.getD j dO) (l.getD i dO)) || memN ((ancGo l []).getD i []) j
def dFE : Fp × Ef := (⟨[], []⟩, ⟨.c .any, []⟩)
def chkD (l : List Oper) (es : List (Fp × Ef)) : Bool :=
  ltAll l.length fun i => ltAll i fun j =>
    ((disB (es.getD j dFE).2.wb ((es.getD i dFE).1.rb ++ (es.getD i dFE).2.wb) && disB (es.getD j dFE).1.rb (es.getD i dFE).2.wb && disB (es.getD j dFE).1.al (es.getD i dFE).2.mt) || memN ((ancGo l []).getD i []) j)
    && disB (es.getD i dFE).1.al (es.getD j dFE).2.mt
def chkT (es : List (Fp × Ef)) : Bool := ltAll es.length fun i => ltAll i fun j => disB (es.getD i dFE).1.al (es.getD j dFE).2.mt
def chkN (N : Nat) (l : List Oper) : Bool := l.all fun o => o.dst.all (fun d => Nat.blt d N)
theorem anc_closed {l : List Oper} {X : Nat → Bool} (hX : ∀ i o, l[i]? = some o → X i = true → ∀ p ∈ preds o, X p = true) :
    ∀ i o, l[i]? = some o → (∀ p ∈ preds o, X p = true) → ∀ j ∈ (ancGo l []).getD i [], X j = true := by
  have key : ∀ (r : List Oper) (acc : List (List Nat)) (k : Nat), acc.length = k → (∀ j, r[j]? = l[k + j]?) →
      (∀ i o, i < k → l[i]? = some o → (∀ p ∈ preds o, X p = true) → ∀ j ∈ acc.getD i [], X j = true) →
      ∀ i o, l[i]? = some o → (∀ p ∈ preds o, X p = true) → ∀ j ∈ (ancGo r acc).getD i [], X j = true := by
    intro r
    induction r with
    | nil =>
      intro acc k hk hr hg i o ho hp j hj
      have hlt : i < k := by
        rcases Nat.lt_or_ge i k with h | h
        · exact h
        · have := hr (i - k)
          rw [show k + (i - k) = i by omega, ho] at this
          simp at this
      exact hg i o hlt ho hp j hj
    | cons y r ih =>
      intro acc k hk hr hg i o ho hp j hj
      simp only [ancGo] at hj
      have hy : l[k]? = some y := by have := hr 0; simpa using this.symm
      refine ih _ (k + 1) (by simp [hk]) (fun j => by have := hr (j + 1); rw [List.getElem?_cons_succ] at this; rw [this]; congr 1; omega) ?_ i o ho hp j hj
      intro i' o' hi' ho' hp' j' hj'
      by_cases e : i' < k
      · rw [List.getD_eq_getElem?_getD, List.getElem?_append_left (by omega)] at hj'
        exact hg i' o' e ho' hp' j' (by rw [List.getD_eq_getElem?_getD]; exact hj')
      · obtain rfl : i' = k := by omega
        rw [hy] at ho'
        obtain rfl := Option.some.inj ho'
        rw [List.getD_eq_getElem?_getD, List.getElem?_append_right (by omega)] at hj'
        simp only [hk, Nat.sub_self, List.getElem?_cons_zero, Option.getD_some, List.mem_append, List.mem_flatMap] at hj'
        rcases hj' with hj' | ⟨p, hp1, hp2⟩
        · exact hp' j' hj'
        · have hXp := hp' p hp1
          by_cases hpk : p < acc.length
          · have hpl : p < l.length := by
              have := (List.getElem?_eq_some_iff.1 hy).1
              omega
            have hpo : l[p]? = some l[p] := List.getElem?_eq_getElem hpl
            exact hg p _ (by omega) hpo (hX p _ hpo hXp) j' hp2
          · rw [List.getD_eq_getElem?_getD, List.getElem?_eq_none (by omega)] at hp2
            simp at hp2
  exact key l [] 0 rfl (fun j => by simp) (fun i o h => by omega)
theorem Rel.drew {E : En} {N : Nat} {cx : Cx} {st : St} {a : Act} {w : World} (h : Rel E N cx st a w) : Rel E N cx st a { w with drawn := w.drawn + 1 } := by
  have hRP : ∀ {A : Nat → Prop} {p : PV} {v : Value}, RP w A p v → RP { w with drawn := w.drawn + 1 } A p v := fun h => h.mono (fun _ h => h) (Nat.le_refl _) (fun _ _ _ => rfl)
  have hRC : ∀ (c : CV) (v : Value), RC cx w st.h c v → RC cx { w with drawn := w.drawn + 1 } st.h c v := by
    intro c v h
    cases c with
    | any => trivial
    | p x => exact hRP h
    | ptr b i k => exact h
    | sl b off n => exact h
    | ep row k =>
      obtain ⟨g, off, h1, h2, h3, h4⟩ := h
      exact ⟨g, off, h1, h2, h3, fun j p hp => let ⟨c, hc, hp⟩ := h4 j p hp; ⟨c, hc, hRP hp⟩⟩
    | mp b => exact h
  have hRL : ∀ (cs : List CV) (vs : Array Value), RL cx w st.h cs vs → RL cx { w with drawn := w.drawn + 1 } st.h cs vs := fun cs vs h => ⟨h.1, fun i c hc => let ⟨u, hu, h1, hr⟩ := h.2 i c hc; ⟨u, hu, h1, hRC c u hr⟩⟩
  refine ⟨h.defers, h.size, fun s => ?_, fun b bk hb => ?_, h.inj, h.own, h.A, h.A0, h.kept, h.sz, h.os, h.tape, h.output, h.hN, h.pin, h.cz, ?_⟩
  · have := h.fr s
    revert this
    cases st.g s with
    | c x => exact fun h => ⟨h.1, hRC x _ h.2⟩
    | agg cs => rintro ⟨vs, h1, h2⟩; exact ⟨vs, h1, hRL _ _ h2⟩
    | tup ts =>
      rintro ⟨vs, h1, h2, h3⟩
      refine ⟨vs, h1, h2, fun i t ht => ?_⟩
      obtain ⟨u, hu, hr⟩ := h3 i t ht
      refine ⟨u, hu, ?_⟩
      cases t with
      | c x => exact ⟨hr.1, hRC x _ hr.2⟩
      | agg cs => obtain ⟨us, h4, h5⟩ := hr; exact ⟨us, h4, hRL _ _ h5⟩
      | tup ts => exact hr
  · have := h.bl b bk hb
    cases bk with
    | row e rows mu =>
      obtain ⟨h0, h1, h2⟩ := this
      refine ⟨h0, h1, ?_⟩
      revert h2
      cases cx.ι b with
      | none => exact id
      | some x =>
        obtain ⟨g, o⟩ := x
        rintro ⟨h3, c, el, fz, capR, h4, h5, h6, h7, h8, h9, h10⟩
        exact ⟨h3, c, el, fz, capR, h4, h5, h6, h7, h8, h9, fun i r k p hi hk => let ⟨cv, hc, hp⟩ := h10 i r k p hi hk; ⟨cv, hc, hRP hp⟩⟩
    | box cs f =>
      obtain ⟨g, o, c, el, h1, h2, h3, h4, h5, h6⟩ := this
      exact ⟨g, o, c, el, h1, h2, h3, h4, fun k x hx => let ⟨cv, hc, h1, hp⟩ := h5 k x hx; ⟨cv, hc, h1, hRC x cv hp⟩, h6.imp fun _ _ h => hRP h⟩
    | map ks => exact this
    | mv ks =>
      obtain ⟨g, es, clk, h1, h2, h3, h4, h5⟩ := this
      exact ⟨g, es, clk, h1, h2, h3, h4, fun i x hx => let ⟨v, hv, h6, h7⟩ := h5 i x hx; ⟨v, hv, h6, hRP h7⟩⟩
    | tab e n cs =>
      obtain ⟨g, c, el, h1, h2, h3, h4, h5, h6⟩ := this
      exact ⟨g, c, el, h1, h2, h3, h4, h5, fun k x hx => let ⟨cv, hc, h1, hp⟩ := h6 k x hx; ⟨cv, hc, h1, hRC x cv hp⟩⟩
    | obj I e n => trivial
  · intro b I e n hb
    obtain ⟨⟨g, h1, h2⟩, h3⟩ := h.ob b I e n hb
    exact ⟨⟨g, h1, h2.mono (fun _ h => h) (Nat.le_refl _) (fun _ _ _ => rfl) (fun _ _ => rfl) rfl (fun x hx => (h2.2.1 x hx).2.1) h2.2.2.2⟩, h3⟩
theorem Seq.len {E : En} {N : Nat} {P : Program} {ops : Array Oper} {l : List Oper} {st st' : St} {es : List (Fp × Ef)} (h : Seq E N P ops l st es st') : es.length = l.length := by
  induction h with
  | nil => rfl
  | cons _ _ ih => simp [ih]
def zipE (l : List Oper) (es : List (Fp × Ef)) : List (Oper × Ef) := l.zip (es.map (·.2))
theorem zipE_at {l : List Oper} {es : List (Fp × Ef)} {i : Nat} {o : Oper} {f : Fp} {ef : Ef} (ho : l[i]? = some o) (he : es[i]? = some (f, ef)) : (zipE l es)[i]? = some (o, ef) := by
  simp [zipE, List.getElem?_zip_eq_some, ho, he]
theorem zipE_inv {l : List Oper} {es : List (Fp × Ef)} {i : Nat} {o : Oper} {ef : Ef} (h : (zipE l es)[i]? = some (o, ef)) : l[i]? = some o ∧ ∃ f, es[i]? = some (f, ef) := by
  simp only [zipE, List.getElem?_zip_eq_some, List.getElem?_map, Option.map_eq_some_iff] at h
  obtain ⟨h1, ⟨f, ef'⟩, h2, rfl⟩ := h
  exact ⟨h1, f, h2⟩
theorem Seq.at {E : En} {N : Nat} {P : Program} {ops : Array Oper} {l : List Oper} {st st' : St} {es : List (Fp × Ef)} (h : Seq E N P ops l st es st') :
    (∀ (i k : Nat) (o : Oper) (f : Fp) (ef : Ef), l[i]? = some o → es[i]? = some (f, ef) → OpAt E N P ops o (apX (fun j => decide (j < k + i)) k (zipE l es) st) f ef) ∧
    (∀ k, apX (fun _ => true) k (zipE l es) st = st') := by
  induction h with
  | nil st => exact ⟨fun i k o f ef h => by simp at h, fun k => rfl⟩
  | @cons o r st st' f ef es h hr ih =>
    constructor
    · intro i k o' f' ef' ho he
      cases i with
      | zero =>
        simp only [List.getElem?_cons_zero, Option.some.injEq, Prod.mk.injEq] at ho he
        obtain ⟨rfl, rfl⟩ := he
        subst ho
        have : Alike st (apX (fun j => decide (j < k + 0)) k (zipE (o :: r) ((f, ef) :: es)) st) := by
          have e : apX (fun _ => false) k (zipE (o :: r) ((f, ef) :: es)) st = st := apX_none _ _ _
          constructor
          · intro s
            conv => rhs; rw [← e]
            exact apX_g _ _ _ _ (fun j x _ _ => by simp) rfl
          · intro s
            conv => rhs; rw [← e]
            exact apX_h _ _ _ _ (fun j x _ _ => by simp) rfl
        rcases h with ⟨h1, h2⟩ | ⟨h1, h2⟩
        · refine .inl ⟨by rw [wn_agree (fun s _ => this.1 s)]; exact h1, fun st2 ha hf => h2 st2 ⟨fun s hs => (ha.1 s hs).trans (this.1 s), fun b hb => (ha.2 b hb).trans (this.2 b)⟩ hf⟩
        · exact .inr ⟨by rw [wn_agree (fun s _ => this.1 s)]; exact h1, h2⟩
      | succ i =>
        have := ih.1 i (k + 1) o' f' ef' (by simpa using ho) (by simpa using he)
        simp only [zipE, List.map_cons, List.zip_cons_cons, apX]
        rw [if_pos (by simp)]
        rw [show k + (i + 1) = k + 1 + i by omega]
        exact this
    · intro k
      simp only [zipE, List.map_cons, List.zip_cons_cons, apX, if_true]
      exact ih.2 (k + 1)
theorem put_eq {o : Oper} {a : Act} {v : Value} {s : Nat} (h : o.dst ≠ some s) : (a.put o.dst v).tmps.getD s undef = a.tmps.getD s undef := by
  cases hd : o.dst with
  | none => rfl
  | some d =>
    rw [hd] at h
    have : d ≠ s := fun e => h (by rw [e])
    simp [Act.put, Array.getD_eq_getD_getElem?, Array.getElem?_setIfInBounds_ne this]
theorem put_same {o : Oper} {a : Act} {v : Value} {s : Nat} (h : o.dst = some s) (hs : s < a.tmps.size) : (a.put o.dst v).tmps.getD s undef = v := by
  rw [h]
  simp [Act.put, Array.getD_eq_getD_getElem?, hs]
theorem put_size {o : Oper} {a : Act} {v : Value} : (a.put o.dst v).tmps.size = a.tmps.size := by
  cases o.dst <;> simp [Act.put]
theorem put_defers {o : Oper} {a : Act} {v : Value} : (a.put o.dst v).defers = a.defers := by
  cases o.dst <;> rfl
theorem Rel.skip {E : En} {N : Nat} {cx : Cx} {st : St} {a : Act} {w : World} {o : Oper} (h : Rel E N cx st a w) : Rel E N cx (Ef.ap ⟨.tup [], []⟩ o st) (a.put o.dst undef) w := by
  have hh : (Ef.ap ⟨.tup [], []⟩ o st).h = st.h := rfl
  refine ⟨by rw [put_defers]; exact h.defers, by rw [put_size]; exact h.size, fun s => ?_, h.bl, h.inj, h.own, h.A, h.A0, h.kept, h.sz, h.os, h.tape, h.output, h.hN, h.pin, h.cz, h.ob⟩
  rw [hh]
  by_cases hd : o.dst = some s
  · rw [ap_g_in hd]
    by_cases hs : s < a.tmps.size
    · rw [put_same hd hs]; exact ⟨#[], rfl, rfl, fun i t h => by simp at h⟩
    · have : (a.put o.dst undef).tmps.getD s undef = undef := by
        rw [Array.getD_eq_getD_getElem?, Array.getElem?_eq_none (by rw [put_size]; omega)]; rfl
      rw [this]; exact ⟨#[], rfl, rfl, fun i t h => by simp at h⟩
  · rw [ap_g hd, put_eq hd]; exact h.fr s
theorem count_set {l : List Bool} {i : Nat} (h : l[i]? = some false) : (l.set i true).count false + 1 = l.count false := by
  induction l generalizing i with
  | nil => simp at h
  | cons b l ih =>
    cases i with
    | zero => simp only [List.getElem?_cons_zero, Option.some.injEq] at h; subst h; simp
    | succ i =>
      have := ih (i := i) (by simpa using h)
      simp only [List.set_cons_succ, List.count_cons]
      omega
section
variable {E : En} {N : Nat} {P : Program} {l : List Oper} {es : List (Fp × Ef)} {st st' : St}
theorem region_any (hm : P.follows .mixedOrders = true) (hS : schS N l = true) (hD : chkD l es = true) (hq : Seq E N P l.toArray l st es st')
    (hF : ∀ (i : Nat) (f : Fp) (ef : Ef), es[i]? = some (f, ef) → ∀ b ∈ f.al, FreshB b st) {cx : Cx} {a : Act} {w : World} (hr : Rel E N cx st a w) {id : Nat} :
    (Code.region id l.toArray true).wp P (fun e a' w' => e = .normal ∧ ∃ cx', Rel E N cx' st' a' w') a w := by
  have hlen := hq.len
  obtain ⟨hat, hend⟩ := hq.at
  have hS := ltAll_spec hS
  have hD := ltAll_spec hD
  have hpred : ∀ (i : Nat) (o : Oper), l[i]? = some o → ∀ p ∈ preds o, p < i := by
    intro i o ho p hp
    have hi := (List.getElem?_eq_some_iff.1 ho).1
    have h1 := hS i hi
    simp only [Bool.and_eq_true] at h1
    have h2 := List.all_eq_true.1 h1.1.2 p (by rw [List.getD_eq_getElem?_getD, ho]; exact hp)
    exact Nat.le_of_ble_eq_true h2
  have hdst : ∀ (i : Nat) (o : Oper), l[i]? = some o → ∀ d, o.dst = some d → d < N := by
    intro i o ho d hd
    have hi := (List.getElem?_eq_some_iff.1 ho).1
    have h1 := hS i hi
    simp only [Bool.and_eq_true] at h1
    have h2 := h1.1.1
    rw [List.getD_eq_getElem?_getD, ho] at h2
    simp only [Option.getD_some, hd, Option.all_some] at h2
    exact Nat.le_of_ble_eq_true h2
  have hap : ∀ (j i : Nat) (oj oi : Oper), j < i → l[j]? = some oj → l[i]? = some oi → Oper.apart l.toArray oj oi = true ∨ j ∈ (ancGo l []).getD i [] := by
    intro j i oj oi hji hj hi
    have hil := (List.getElem?_eq_some_iff.1 hi).1
    have h1 := hS i hil
    simp only [Bool.and_eq_true] at h1
    have h2 := ltAll_spec h1.2 j hji
    rw [List.getD_eq_getElem?_getD, List.getD_eq_getElem?_getD, hi, hj] at h2
    simp only [Option.getD_some, Bool.or_eq_true, memN_iff] at h2
    exact h2
  have hbl : ∀ (j i : Nat) (xj xi : Fp × Ef), j < i → es[j]? = some xj → es[i]? = some xi →
      (((∀ b ∈ xj.2.wb, b ∉ xi.1.rb ++ xi.2.wb) ∧ (∀ b ∈ xj.1.rb, b ∉ xi.2.wb) ∧ (∀ b ∈ xj.1.al, b ∉ xi.2.mt)) ∨ j ∈ (ancGo l []).getD i []) ∧ ∀ b ∈ xi.1.al, b ∉ xj.2.mt := by
    intro j i xj xi hji hj hi
    have hil := (List.getElem?_eq_some_iff.1 hi).1
    have h2 := ltAll_spec (hD i (by omega)) j hji
    rw [List.getD_eq_getElem?_getD (l := es), List.getD_eq_getElem?_getD (l := es), hi, hj] at h2
    simp only [Option.getD_some, Bool.and_eq_true, Bool.or_eq_true, memN_iff] at h2
    exact ⟨Or.imp (fun h => ⟨disB_spec h.1.1, disB_spec h.1.2, disB_spec h.2⟩) (fun h => h) h2.1, disB_spec h2.2⟩
  have hsz : l.toArray.size = l.length := by simp
  refine wp_region_any hm ?_
  have key : ∀ (fuel : Nat) (listed : Array Bool) (cx : Cx) (a : Act) (w : World), listed.size = l.length → listed.toList.count false = fuel →
      (∀ (i : Nat) (o : Oper), l[i]? = some o → listed.getD i true = true → ∀ p ∈ preds o, listed.getD p true = true) →
      Rel E N cx (apX (fun j => listed.getD j true) 0 (zipE l es) st) a w →
      wpAny P .any l.toArray (fun e a' w' => e = .normal ∧ ∃ cx', Rel E N cx' st' a' w') fuel listed a w := by
    intro fuel
    induction fuel with
    | zero =>
      intro listed cx a w hls hc hcl hrel
      have hall : ∀ j, listed.getD j true = true := by
        intro j
        rw [Array.getD_eq_getD_getElem?]
        cases hj : listed[j]? with
        | none => rfl
        | some b =>
          cases b with
          | true => rfl
          | false =>
            exfalso
            have hm : false ∈ listed.toList := by
              rw [Array.mem_toList_iff]
              exact Array.mem_of_getElem? hj
            have := List.count_pos_iff.2 hm
            omega
      have he : (fun j => listed.getD j true) = fun _ => true := funext hall
      rw [he, hend 0] at hrel
      refine ⟨?_, rfl, cx, hrel⟩
      unfold Region.ready
      rw [List.filter_eq_nil_iff]
      intro i _ h
      rw [hall i] at h
      simp at h
    | succ fuel ih =>
      intro listed cx a w hls hc hcl hrel
      refine ⟨fun hre => ?_, fun i hi => ?_⟩
      · exfalso
        -- some operation is not listed; the first such one is ready
        have hex : ∃ i, i < l.length ∧ listed.getD i true = false := by
          have hm : false ∈ listed.toList := by
            have : 0 < listed.toList.count false := by omega
            exact List.count_pos_iff.1 this
          obtain ⟨i, hi, he⟩ := List.getElem_of_mem hm
          refine ⟨i, by rw [← hls]; simpa using hi, ?_⟩
          rw [Array.getD_eq_getD_getElem?]
          have hi' : i < listed.size := by simpa using hi
          rw [Array.getElem?_eq_getElem hi']
          simpa using he
        have hmin : ∀ n i, i < n → i < l.length → listed.getD i true = false → False := by
          intro n
          induction n with
          | zero => intro i h; omega
          | succ n ihn =>
            intro i hin hil hif
            have hio : l[i]? = some l[i] := List.getElem?_eq_getElem hil
            have hp : ∀ p ∈ preds l[i], listed.getD p true = true := by
              intro p hp
              cases hv : listed.getD p true with
              | true => rfl
              | false =>
                have := hpred i _ hio p hp
                exact (ihn p (by omega) (by omega) hv).elim
            have hmem : i ∈ Region.ready .any l.toArray listed := by
              unfold Region.ready
              simp only [List.mem_filter, List.mem_range, hsz]
              refine ⟨hil, ?_⟩
              rw [hif]
              have hget : l.toArray[i]? = some l[i] := by simp [hio]
              rw [hget]
              simp only [Bool.not_false, Option.map_some, Option.getD_some, Bool.true_and, Array.all_eq_true_iff_forall_mem]
              intro e he
              cases hb : Region.binds .any e with
              | false => rfl
              | true =>
                have : listed.getD e.on true = true := hp e.on (by
                  unfold preds
                  rw [List.mem_map]
                  exact ⟨e, List.mem_filter.2 ⟨Array.mem_toList_iff.2 he, hb⟩, rfl⟩)
                have hlt : e.on < listed.size := by
                  have := hpred i _ hio e.on (by
                    unfold preds
                    rw [List.mem_map]
                    exact ⟨e, List.mem_filter.2 ⟨Array.mem_toList_iff.2 he, hb⟩, rfl⟩)
                  omega
                rw [Array.getD_eq_getD_getElem?, Array.getElem?_eq_getElem hlt] at this ⊢
                simpa using this
            rw [hre] at hmem
            cases hmem
        obtain ⟨i, h1, h2⟩ := hex
        exact hmin (i + 1) i (by omega) h1 h2
      · unfold Region.ready at hi
        simp only [List.mem_filter, List.mem_range, hsz] at hi
        obtain ⟨hil, hi2⟩ := hi
        have hio : l[i]? = some l[i] := List.getElem?_eq_getElem hil
        generalize l[i] = o at hio
        have hget : l.toArray[i]? = some o := by simp [hio]
        rw [hget] at hi2
        simp only [Option.map_some, Option.getD_some, Bool.and_eq_true, Bool.not_eq_true', Array.all_eq_true_iff_forall_mem] at hi2
        obtain ⟨hif, hiall⟩ := hi2
        have hpl : ∀ p ∈ preds o, listed.getD p true = true := by
          intro p hp
          unfold preds at hp
          rw [List.mem_map] at hp
          obtain ⟨e, he, rfl⟩ := hp
          obtain ⟨he1, he2⟩ := List.mem_filter.1 he
          have := hiall e (Array.mem_toList_iff.1 he1)
          rw [he2] at this
          simp only [Bool.not_true, Bool.false_or] at this
          rw [Array.getD_eq_getD_getElem?] at this ⊢
          cases hx : listed[e.on]? with
          | none => rfl
          | some b => rw [hx] at this; simpa using this
        have hanc := anc_closed (l := l) (X := fun j => listed.getD j true) hcl i o hio hpl
        obtain ⟨fe, hfe⟩ : ∃ fe, es[i]? = some fe := ⟨_, List.getElem?_eq_getElem (by omega)⟩
        obtain ⟨f, ef⟩ := fe
        have hOp := hat i 0 o f ef hio hfe
        rw [Nat.zero_add] at hOp
        -- what is unordered to i does not meet it
        have hlater : ∀ (j : Nat) (oj : Oper), i < j → l[j]? = some oj → listed.getD j true = true → i ∉ (ancGo l []).getD j [] := by
          intro j oj hij hj hlj hc
          have := anc_closed (l := l) (X := fun j => listed.getD j true) hcl j oj hj (hcl j oj hj hlj) i hc
          rw [hif] at this
          cases this
        have hagS : ∀ s ∈ o.looksAt l.toArray, (apX (fun j => listed.getD j true) 0 (zipE l es) st).g s = (apX (fun j => decide (j < i)) 0 (zipE l es) st).g s := by
          intro s hs
          refine apX_g _ _ _ _ (fun j x hx hd => ?_) rfl
          obtain ⟨xo, xe⟩ := x
          obtain ⟨hj, g, hje⟩ := zipE_inv hx
          rw [Nat.zero_add]
          rcases Nat.lt_trichotomy j i with h | h | h
          · rcases hap j i xo o h hj hio with h2 | h2
            · exact absurd hs ((Oper.apart_spec h2).1 s hd)
            · rw [hanc j h2]; simp [h]
          · subst h; rw [hif]; simp
          · have : listed.getD j true = false := by
              cases hv : listed.getD j true with
              | false => rfl
              | true =>
                exfalso
                rcases hap i j o xo h hio hj with h2 | h2
                · exact (Oper.apart_spec h2).2.2 s hd hs
                · exact hlater j xo h hj hv h2
            rw [this]; simp; omega
        have hagB : ∀ b ∈ f.rb, (apX (fun j => listed.getD j true) 0 (zipE l es) st).h b = (apX (fun j => decide (j < i)) 0 (zipE l es) st).h b := by
          intro b hb
          refine apX_h _ _ _ _ (fun j x hx hd => ?_) rfl
          obtain ⟨xo, xe⟩ := x
          obtain ⟨hj, g, hje⟩ := zipE_inv hx
          rw [Nat.zero_add]
          rcases Nat.lt_trichotomy j i with h | h | h
          · rcases (hbl j i _ _ h hje hfe).1 with h2 | h2
            · exact absurd (List.mem_append_left _ hb) (h2.1 b hd)
            · rw [hanc j h2]; simp [h]
          · subst h; rw [hif]; simp
          · have : listed.getD j true = false := by
              cases hv : listed.getD j true with
              | false => rfl
              | true =>
                exfalso
                rcases (hbl i j _ _ h hfe hje).1 with h2 | h2
                · exact h2.2.1 b hb hd
                · exact hlater j xo h hj hv h2
            rw [this]; simp; omega
        have hset : ∀ j, (listed.setIfInBounds i true).getD j true = (decide (j = i) || listed.getD j true) := by
          intro j
          rw [Array.getD_eq_getD_getElem?, Array.getD_eq_getD_getElem?]
          by_cases e : j = i
          · subst e
            rw [Array.getElem?_setIfInBounds_self]
            simp
            split <;> rfl
          · rw [Array.getElem?_setIfInBounds_ne (fun h => e h.symm)]
            simp [e]
        -- the state with i
        have hAl : Alike (ef.ap o (apX (fun j => listed.getD j true) 0 (zipE l es) st)) (apX (fun j => (listed.setIfInBounds i true).getD j true) 0 (zipE l es) st) := by
          constructor
          · intro s
            by_cases hd : o.dst = some s
            · rw [ap_g_in hd]
              refine apX_g_last hd _ 0 i _ (zipE_at hio hfe) (by rw [hset]; simp) (fun j x hij hx hxd => ?_)
              obtain ⟨xo, xe⟩ := x
              obtain ⟨hj, g, hje⟩ := zipE_inv hx
              rw [hset, Nat.zero_add]
              have : j ≠ i := by omega
              cases hv : listed.getD j true with
              | false => simp [this]
              | true =>
                exfalso
                rcases hap i j o xo hij hio hj with h2 | h2
                · exact (Oper.apart_spec h2).2.1 s hd hxd
                · exact hlater j xo hij hj hv h2
            · rw [ap_g hd]
              refine apX_g _ _ _ _ (fun j x hx hxd => ?_) rfl
              obtain ⟨xo, xe⟩ := x
              obtain ⟨hj, g, hje⟩ := zipE_inv hx
              rw [hset, Nat.zero_add]
              have : j ≠ i := by
                rintro rfl
                rw [hio] at hj
                cases hj
                exact hd hxd
              simp [this]
          · intro b
            by_cases hd : b ∈ ef.bl.map (·.1)
            · refine apX_h_last (o := o) hd _ 0 i _ (zipE_at hio hfe) (by rw [hset]; simp) (fun j x hij hx hxd => ?_)
              obtain ⟨xo, xe⟩ := x
              obtain ⟨hj, g, hje⟩ := zipE_inv hx
              rw [hset, Nat.zero_add]
              have : j ≠ i := by omega
              cases hv : listed.getD j true with
              | false => simp [this]
              | true =>
                exfalso
                rcases (hbl i j _ _ hij hfe hje).1 with h2 | h2
                · exact h2.1 b hd (List.mem_append_right _ hxd)
                · exact hlater j xo hij hj hv h2
            · rw [ap_h hd]
              refine apX_h _ _ _ _ (fun j x hx hxd => ?_) rfl
              obtain ⟨xo, xe⟩ := x
              obtain ⟨hj, g, hje⟩ := zipE_inv hx
              rw [hset, Nat.zero_add]
              have : j ≠ i := by
                rintro rfl
                rw [hfe] at hje
                cases hje
                exact hd hxd
              simp [this]
        have hcl' : ∀ (i' : Nat) (o' : Oper), l[i']? = some o' → (listed.setIfInBounds i true).getD i' true = true → ∀ p ∈ preds o', (listed.setIfInBounds i true).getD p true = true := by
          intro i' o' ho' hl' p hp
          rw [hset] at hl' ⊢
          by_cases e : i' = i
          · subst e
            rw [hio] at ho'
            cases ho'
            rw [hpl p hp]; simp
          · simp only [e, decide_false, Bool.false_or] at hl'
            rw [hcl i' o' ho' hl' p hp]; simp
        have hcnt : (listed.setIfInBounds i true).toList.count false = fuel := by
          have hx : listed.toList[i]? = some false := by
            have hlt : i < listed.size := by omega
            rw [Array.getD_eq_getD_getElem?, Array.getElem?_eq_getElem hlt] at hif
            rw [Array.getElem?_toList, Array.getElem?_eq_getElem hlt]
            simpa using hif
          have := count_set hx
          rw [Array.toList_setIfInBounds]
          omega
        have hfin : ∀ (cx' : Cx) (a' : Act) (w' : World), Rel E N cx' (ef.ap o (apX (fun j => listed.getD j true) 0 (zipE l es) st)) a' w' →
            wpAny P .any l.toArray (fun e a' w' => e = .normal ∧ ∃ cx', Rel E N cx' st' a' w') fuel (listed.setIfInBounds i true) a' w' :=
          fun cx' a' w' h => ih _ cx' a' w' (by simp [hls]) hcnt hcl' (h.alike hAl)
        unfold wpOp
        rw [hget]
        simp only
        rcases hOp with ⟨h1, h2⟩ | ⟨h1, h2, h3⟩
        · rw [← wn_agree hagS] at h1
          rw [wanted_of hrel h1, if_pos rfl]
          refine .inl ?_
          have hfr : ∀ b ∈ f.al, FreshB b (apX (fun j => listed.getD j true) 0 (zipE l es) st) := by
            intro b hb
            refine apX_fresh _ _ _ (hF i f ef hfe b hb) (fun j x hx hX => ?_)
            rw [Nat.zero_add] at hX
            obtain ⟨xo, xe⟩ := x
            obtain ⟨hj, g, hje⟩ := zipE_inv hx
            rcases Nat.lt_trichotomy j i with h | h | h
            · exact (hbl j i _ _ h hje hfe).2 b hb
            · subst h; rw [hif] at hX; cases hX
            · rcases (hbl i j _ _ h hfe hje).1 with h3 | h3
              · exact h3.2.2 b hb
              · exact absurd h3 (hlater j xo h hj hX)
          refine Oper.wp_mono (fun a' w' ⟨cx', h⟩ => hfin cx' a' w' h) (h2 _ ⟨hagS, hagB⟩ hfr (hdst i o hio) cx a w _ hrel)
        · rw [← wn_agree hagS] at h1
          rw [wanted_of hrel h1, if_neg (by simp)]
          subst h3
          exact hfin cx _ _ hrel.skip
  have h0 := key l.length (Array.replicate l.length false) cx a { w with drawn := w.drawn + 1 } (by simp) (by simp) (by
    intro i o ho hl
    have hi := (List.getElem?_eq_some_iff.1 ho).1
    rw [Array.getD_eq_getD_getElem?, Array.getElem?_replicate, if_pos hi] at hl
    simp at hl) (by
    have : Alike st (apX (fun j => (Array.replicate l.length false).getD j true) 0 (zipE l es) st) := by
      have e : apX (fun _ => false) 0 (zipE l es) st = st := apX_none _ _ _
      have hX : ∀ (j : Nat) (x : Oper × Ef), (zipE l es)[j]? = some x → (Array.replicate l.length false).getD (0 + j) true = false := by
        intro j x hx
        obtain ⟨xo, xe⟩ := x
        obtain ⟨hj, _⟩ := zipE_inv hx
        have hi := (List.getElem?_eq_some_iff.1 hj).1
        rw [Nat.zero_add, Array.getD_eq_getD_getElem?, Array.getElem?_replicate, if_pos hi]; rfl
      constructor
      · intro s
        conv => rhs; rw [← e]
        exact apX_g _ _ _ _ (fun j x hx _ => (hX j x hx).symm) rfl
      · intro s
        conv => rhs; rw [← e]
        exact apX_h _ _ _ _ (fun j x hx _ => (hX j x hx).symm) rfl
    exact hr.drew.alike this)
  rw [hsz]
  exact h0
end
def Cmp (cx : Cx) (w : World) (h : Bid → Option Bk) (cx' : Cx) (w' : World) (h' : Bid → Option Bk) (b : Bid) : Prop :=
  ∀ bk', h' b = some bk' → ∃ bk, h b = some bk ∧ bk.e = bk'.e ∧ bk.len ≤ bk'.len ∧ cx'.ι b = cx.ι b ∧
    ∀ g o c el fz, cx.ι b = some (g, o) → w.heap[g]? = some (.cells c el fz) → ∃ c' el' fz', w'.heap[g]? = some (.cells c' el' fz') ∧ (0 < bk'.e → c'.size = c.size)
section
variable {cx cx' : Cx} {w w' : World} {h h' : Bid → Option Bk}
theorem RC.tr {c : CV} {v : Value} (hA : ∀ g, cx.A g → cx'.A g) (hk : Keeps cx.A w w') (hb : ∀ b ∈ c.ment, Cmp cx w h cx' w' h' b) (hr : RC cx w h c v) : RC cx' w' h' c v := by
  cases c with
  | any => trivial
  | p x => exact hr.keeps hA hk
  | ptr b i k =>
    intro bk' hbk
    obtain ⟨bk, h1, h2, h3, h4, h5⟩ := hb b (by simp [CV.ment]) bk' hbk
    obtain ⟨g, o, h6, h7⟩ := hr bk h1
    exact ⟨g, o, by rw [h4, h6], by rw [h7, h2]⟩
  | sl b off n =>
    intro bk' hbk
    obtain ⟨bk, h1, h2, h3, h4, h5⟩ := hb b (by simp [CV.ment]) bk' hbk
    obtain ⟨a, cap, h6, h7, h8, h9, h10⟩ := hr bk h1
    refine ⟨a, cap, h6, h7, h8, by omega, ?_⟩
    rcases h10 with h10 | ⟨g, c, el, fz, h11, h12, h13, h14⟩
    · exact .inl h10
    · obtain ⟨c', el', fz', h15, h16⟩ := h5 g 0 c el fz h11 h13
      refine .inr ⟨g, c', el', fz', by rw [h4, h11], by rw [h12, h2], h15, ?_⟩
      intro he
      rw [h16 he, h14 (by rw [h2]; exact he), h2]
  | ep row k =>
    obtain ⟨g, off, h1, h2, h3, h4⟩ := hr
    refine ⟨g, off, h1, hA g h2, Nat.lt_of_lt_of_le h3 hk.sz, fun j p hp => ?_⟩
    obtain ⟨c, hc, hp⟩ := h4 j p hp
    exact ⟨c, by rw [World.cell?_of_block (w := w) (hk.bl g h2 h3)]; exact hc, hp.keeps hA hk⟩
  | mp b =>
    intro bk' hbk
    obtain ⟨bk, h1, h2, h3, h4, h5⟩ := hb b (by simp [CV.ment]) bk' hbk
    obtain ⟨g, h6, h7⟩ := hr bk h1
    exact ⟨g, by rw [h4, h6], h7⟩
theorem mentL_mem {cs : List CV} {i : Nat} {c : CV} (h : cs[i]? = some c) {b : Bid} (hb : b ∈ c.ment) : b ∈ mentL cs := by
  unfold mentL
  rw [List.mem_flatMap]
  exact ⟨c, List.mem_of_getElem? h, hb⟩
theorem RL.tr {cs : List CV} {vs : Array Value} (hA : ∀ g, cx.A g → cx'.A g) (hk : Keeps cx.A w w') (hb : ∀ b ∈ mentL cs, Cmp cx w h cx' w' h' b) (hr : RL cx w h cs vs) : RL cx' w' h' cs vs :=
  ⟨hr.1, fun i c hc => let ⟨u, hu, h1, hx⟩ := hr.2 i c hc; ⟨u, hu, h1, hx.tr hA hk fun b hbm => hb b (mentL_mem hc hbm)⟩⟩
theorem RT1.tr {t : TV} {v : Value} (hA : ∀ g, cx.A g → cx'.A g) (hk : Keeps cx.A w w') (hb : ∀ b ∈ t.ment1, Cmp cx w h cx' w' h' b) (hr : RT1 cx w h t v) : RT1 cx' w' h' t v := by
  cases t with
  | c x => exact ⟨hr.1, RC.tr hA hk hb hr.2⟩
  | agg cs => obtain ⟨vs, h1, h2⟩ := hr; exact ⟨vs, h1, h2.tr hA hk hb⟩
  | tup ts => exact hr
theorem RT.tr {t : TV} {v : Value} (hA : ∀ g, cx.A g → cx'.A g) (hk : Keeps cx.A w w') (hb : ∀ b ∈ t.ment, Cmp cx w h cx' w' h' b) (hr : RT cx w h t v) : RT cx' w' h' t v := by
  cases t with
  | c x => exact ⟨hr.1, RC.tr hA hk hb hr.2⟩
  | agg cs => obtain ⟨vs, h1, h2⟩ := hr; exact ⟨vs, h1, h2.tr hA hk hb⟩
  | tup ts =>
    obtain ⟨vs, h1, h2, h3⟩ := hr
    refine ⟨vs, h1, h2, fun i t ht => ?_⟩
    obtain ⟨u, hu, hx⟩ := h3 i t ht
    refine ⟨u, hu, hx.tr hA hk fun b hbm => hb b ?_⟩
    simp only [TV.ment, List.mem_flatMap]
    exact ⟨t, List.mem_of_getElem? ht, hbm⟩
theorem RB.tr {b : Bid} {bk : Bk} (hA : ∀ g, cx.A g → cx'.A g) (hk : Keeps cx.A w w') (hb : ∀ b ∈ bk.ment, Cmp cx w h cx' w' h' b) (hi : cx'.ι b = cx.ι b)
    (hg : ∀ g o, cx.ι b = some (g, o) → w'.heap[g]? = w.heap[g]? ∧ (¬ cx.A g → ¬ cx'.A g)) (hr : RB cx w h b bk) : RB cx' w' h' b bk := by
  cases bk with
  | row e rows mu =>
    obtain ⟨h0, h1, h2⟩ := hr
    refine ⟨h0, h1, ?_⟩
    rw [hi]
    revert h2 hg
    cases cx.ι b with
    | none => exact fun _ h => h
    | some x =>
      obtain ⟨g, o⟩ := x
      intro hg
      obtain ⟨hg1, hg2⟩ := hg g o rfl
      rintro ⟨h3, c, el, fz, capR, h4, h5, h6, h7, h8, h9, h10⟩
      refine ⟨h3, c, el, fz, capR, by rw [hg1]; exact h4, fun hm => ⟨(h5 hm).1, hg2 (h5 hm).2⟩, fun hm => hA g (h6 hm), h7, h8, h9, fun i r k p hir hk' => ?_⟩
      obtain ⟨cv, hc, hp⟩ := h10 i r k p hir hk'
      exact ⟨cv, hc, hp.keeps hA hk⟩
  | box cs f =>
    obtain ⟨g, o, c, el, h1, h2, h3, h4, h5, h6⟩ := hr
    obtain ⟨hg1, hg2⟩ := hg g o h1
    exact ⟨g, o, c, el, by rw [hi, h1], by rw [hg1]; exact h2, hg2 h3, h4, fun k x hx => let ⟨cv, hc, h1, hp⟩ := h5 k x hx; ⟨cv, hc, h1, hp.tr hA hk fun b hbm => hb b (mentL_mem hx hbm)⟩, h6.imp fun _ _ h => h.keeps hA hk⟩
  | map ks =>
    obtain ⟨g, es, clk, h1, h2, h3, h4⟩ := hr
    obtain ⟨hg1, hg2⟩ := hg g 0 h1
    exact ⟨g, es, clk, by rw [hi, h1], by rw [hg1]; exact h2, hg2 h3, h4⟩
  | mv ks =>
    obtain ⟨g, es, clk, h1, h2, h3, h4, h5⟩ := hr
    obtain ⟨hg1, hg2⟩ := hg g 0 h1
    exact ⟨g, es, clk, by rw [hi, h1], by rw [hg1]; exact h2, hg2 h3, h4, fun i x hx => let ⟨v, hv, h6, h7⟩ := h5 i x hx; ⟨v, hv, h6, h7.keeps hA hk⟩⟩
  | tab e n cs =>
    obtain ⟨g, c, el, h1, h2, h3, h4, h5, h6⟩ := hr
    obtain ⟨hg1, hg2⟩ := hg g 0 h1
    exact ⟨g, c, el, by rw [hi, h1], by rw [hg1]; exact h2, hg2 h3, h4, h5, fun k x hx => let ⟨cv, hc, h1, hp⟩ := h6 k x hx; ⟨cv, hc, h1, hp.tr hA hk fun b hbm => hb b (mentL_mem hx hbm)⟩⟩
  | obj I e n => trivial
def Wr (cx : Cx) (h : Bid → Option Bk) (x : Nat) : Prop := ∃ b bk q, h b = some bk ∧ bk.noObj = true ∧ cx.ι b = some (x, q)
structure Fr4 (cx : Cx) (h : Bid → Option Bk) (w : World) (cx' : Cx) (h' : Bid → Option Bk) (w' : World) : Prop where
  F : cx'.F = cx.F
  ob : ∀ b I e n, h' b = some (.obj I e n) → h b = some (.obj I e n) ∧ cx'.ι b = cx.ι b
  heap : ∀ x, x < w.heap.size → w'.heap[x]? = w.heap[x]? ∨ Wr cx h x
  A : ∀ x, cx'.A x → cx.A x ∨ w.heap.size ≤ x ∨ Wr cx h x
  ι : ∀ b g q, h' b ≠ none → cx'.ι b = some (g, q) → w.heap.size ≤ g ∨ Wr cx h g ∨ h b ≠ none ∧ ∃ q', cx.ι b = some (g, q')
theorem Ob.keep {E : En} (hob : Ob E cx h w) (hinj : ∀ b b' g o g' o', h b ≠ none → h b' ≠ none → cx.ι b = some (g, o) → cx.ι b' = some (g', o') → b ≠ b' → g ≠ g') (hA : ∀ g, cx.A g → cx'.A g) (hk : Keeps cx.A w w') (hf : Fr4 cx h w cx' h' w') : Ob E cx' h' w' := by
  intro b I e n hb
  obtain ⟨hb0, hi⟩ := hf.ob b I e n hb
  obtain ⟨⟨g, h1, h2⟩, h3⟩ := hob b I e n hb0
  have hnS : ∀ x, cx.F b x → ¬ Wr cx h x := by
    rintro x hx ⟨b2, bk, q, h4, h5, h6⟩
    exact (h3 x hx).2.1 b2 x q (by rw [h4]; simp) h6 rfl
  have hnG : ¬ Wr cx h g := by
    rintro ⟨b2, bk, q, h4, h5, h6⟩
    by_cases e2 : b2 = b
    · subst e2; rw [hb0] at h4; cases h4; cases h5
    · exact hinj b2 b g q g 0 (by rw [h4]; simp) (by rw [hb0]; simp) h6 h1 e2 rfl
  have hnA : ∀ x, x < w.heap.size → ¬ Wr cx h x → ¬ cx.A x → ¬ cx'.A x := fun x hx hw hn hA' => by
    rcases hf.A x hA' with h4 | h4 | h4
    · exact hn h4
    · omega
    · exact hw h4
  rw [hf.F]
  refine ⟨⟨g, by rw [hi, h1], h2.mono hA hk.sz hk.bl (fun x hx => ?_) ?_ (fun x hx => ?_) ?_⟩, fun x hx => ⟨(h3 x hx).1, fun b' g' q hb' hι => ?_, fun b' I' e' n' hb' hx' => ?_⟩⟩
  · rcases hf.heap x (h2.2.1 x hx).1 with h4 | h4
    · exact h4
    · exact absurd h4 (hnS x hx)
  · rcases hf.heap g h2.2.2.1 with h4 | h4
    · exact h4
    · exact absurd h4 hnG
  · exact hnA x (h2.2.1 x hx).1 (hnS x hx) (h2.2.1 x hx).2.1
  · exact hnA g h2.2.2.1 hnG h2.2.2.2
  · rcases hf.ι b' g' q hb' hι with h4 | h4 | ⟨h4, q', h5⟩
    · have := (h2.2.1 x hx).1; omega
    · rintro rfl; exact hnS x hx h4
    · exact (h3 x hx).2.1 b' g' q' h4 h5
  · exact (h3 x hx).2.2 b' I' e' n' (hf.ob b' I' e' n' hb').1 hx'
end
section
variable {E : En} {N : Nat} {cx cx' : Cx} {st : St} {a : Act} {w w' : World} {o : Oper} {ef : Ef} {v : Value}
theorem Rel.step (hr : Rel E N cx st a w) (hd : ∀ d, o.dst = some d → d < N) (al : List Bid) (hal : ∀ b ∈ al, FreshB b st)
    (hA : ∀ g, cx.A g → cx'.A g) (hA' : ∀ g, cx'.A g → cx.A g ∨ (g < w'.heap.size ∧ (E.w0.heap.size ≤ g ∨ E.M g)))
    (hk : Keeps cx.A w w') (hkept : ∀ g, g < E.w0.heap.size → ¬ E.M g → w'.heap[g]? = w.heap[g]?) (hos : w'.os = w.os) (htape : w'.tape = w.tape) (hout : w'.output = w.output)
    (hcmp : ∀ b, b ∉ al → Cmp cx w st.h cx' w' (ef.ap o st).h b)
    (hbl : ∀ b bk', (ef.ap o st).h b = some bk' →
      (b ∉ al ∧ st.h b = some bk' ∧ cx'.ι b = cx.ι b ∧ ∀ g o, cx.ι b = some (g, o) → w'.heap[g]? = w.heap[g]? ∧ (¬ cx.A g → ¬ cx'.A g)) ∨ RB cx' w' (ef.ap o st).h b bk')
    (hinj : ∀ b b' g o g' o', (ef.ap ‹Oper› st).h b ≠ none → (ef.ap ‹Oper› st).h b' ≠ none → cx'.ι b = some (g, o) → cx'.ι b' = some (g', o') → b ≠ b' → g ≠ g')
    (hown : ∀ b g o, (ef.ap ‹Oper› st).h b ≠ none → cx'.ι b = some (g, o) → g < w'.heap.size ∧ (E.w0.heap.size ≤ g ∨ E.M g))
    (ht : RT cx' w' (ef.ap o st).h ef.t v) (hpin : ∀ b, PinI b → cx'.ι b = cx.ι b) (hob : Ob E cx' (ef.ap o st).h w') : Rel E N cx' (ef.ap o st) (a.put o.dst v) w' := by
  have hne : ∀ {l : List Bid}, (∀ b ∈ al, b ∉ l) → ∀ b ∈ l, Cmp cx w st.h cx' w' (ef.ap o st).h b := fun hl b hb => hcmp b fun hba => hl b hba hb
  refine ⟨by rw [put_defers]; exact hr.defers, by rw [put_size]; exact hr.size, fun s => ?_, fun b bk hb => ?_, hinj, hown, fun g hg => ?_, fun g hg => hA g (hr.A0 g hg),
    fun g h1 h2 => (hkept g h1 h2).trans (hr.kept g h1 h2), Nat.le_trans hr.sz hk.sz, hos.trans hr.os, htape.trans hr.tape, hout.trans hr.output, hr.hN, fun b hb => (hpin b hb).trans (hr.pin b hb), hr.cz.trans hk.cz, hob⟩
  · by_cases hs : o.dst = some s
    · rw [ap_g_in hs, put_same hs (by rw [hr.size]; exact hd s hs)]; exact ht
    · rw [ap_g hs, put_eq hs]
      exact (hr.fr s).tr hA hk (hne fun b hb => (hal b hb).2.1 s)
  · rcases hbl b bk hb with ⟨h1, h2, h3, h4⟩ | h1
    · exact (hr.bl b bk h2).tr hA hk (hne fun b' hb' => (hal b' hb').2.2 b bk h2) h3 h4
    · exact h1
  · rcases hA' g hg with h1 | h1
    · obtain ⟨h2, h3⟩ := hr.A g h1
      exact ⟨Nat.lt_of_lt_of_le h2 hk.sz, h3⟩
    · exact ⟨h1.1, .inr h1.2⟩
theorem Keeps.refl (A : Nat → Prop) (w : World) : Keeps A w w := ⟨Nat.le_refl _, fun _ _ _ => rfl, .refl _⟩
theorem Rel.put (hr : Rel E N cx st a w) (hd : ∀ d, o.dst = some d → d < N) {t : TV} (ht : RT cx w st.h t v) : Rel E N cx (Ef.ap ⟨t, []⟩ o st) (a.put o.dst v) w := by
  have hh : (Ef.ap ⟨t, []⟩ o st).h = st.h := rfl
  refine hr.step (ef := ⟨t, []⟩) hd [] (fun b hb => by cases hb) (fun _ h => h) (fun _ h => .inl h) (Keeps.refl _ _) (fun _ _ _ => rfl) rfl rfl rfl ?_ ?_ ?_ ?_ ht (fun _ _ => rfl) hr.ob
  · intro b _ bk' hb
    rw [hh] at hb
    exact ⟨bk', hb, rfl, Nat.le_refl _, rfl, fun g o c el fz _ h => ⟨c, el, fz, h, fun _ => rfl⟩⟩
  · intro b bk' hb
    exact .inl ⟨by simp, hb, rfl, fun g o _ => ⟨rfl, fun h => h⟩⟩
  · exact hr.inj
  · exact hr.own
variable {P : Program} {ops : Array Oper} {f : Fp}
theorem upon_ok {K : Act → World → Prop} {Q : Exit → Act → World → Prop} (hrun : (execOp a.eval o).run P w = .ok (.value v) w') (h : K (a.put o.dst v) w') : o.wp P a w K Q := by
  unfold Oper.wp
  rw [hrun]; exact h
theorem upon_skip {K : Act → World → Prop} {Q : Exit → Act → World → Prop} (hrun : (execOp a.eval o).run P w = .ok .skip w') (h : K (a.put o.dst undef) w') : o.wp P a w K Q := by
  unfold Oper.wp
  rw [hrun]; exact h
theorem opL_pure {t : TV} {rb : List Bid}
    (h : ∀ st' cx a w, Agree ops o ⟨rb, []⟩ st st' → Rel E N cx st' a w → ∃ v, (execOp a.eval o).run P w = .ok (.value v) w ∧ RT cx w st'.h t v) :
    OpL E N P ops o st ⟨rb, []⟩ ⟨t, []⟩ := by
  intro st' ha _ hd cx a w Q hr
  obtain ⟨v, h1, h2⟩ := h st' cx a w ha hr
  exact upon_ok h1 ⟨cx, hr.put hd h2⟩
def St.ev (st : St) : Operand → TV
  | .tmp t => st.g t
  | .const (.agg cs) => .agg (cs.toList.map fun v => .p (.v v))
  | .const v => .c (.p (.v v))
  | _ => .c .any
def okC : Operand → Bool
  | .const (.agg cs) => cs.toList.all atomB
  | .const v => atomB v
  | _ => true
theorem looks_of {x : Operand} (hx : x ∈ o.op.operands.toList) : ∀ t, x = .tmp t → t ∈ o.looksAt ops := by
  intro t ht
  subst ht
  unfold Oper.looksAt
  rw [List.mem_append]
  left
  rw [List.mem_filterMap]
  exact ⟨_, hx, rfl⟩
theorem ev_agree {st st' : St} (ha : Agree ops o f st st') {x : Operand} (hx : x ∈ o.op.operands.toList) : st'.ev x = st.ev x := by
  cases x with
  | tmp t => exact ha.1 t (looks_of hx t rfl)
  | const v => cases v <;> rfl
  | global g => rfl
  | func g => rfl
theorem Rel.ev (hr : Rel E N cx st a w) {x : Operand} (hc : okC x = true) : RT cx w st.h (st.ev x) (a.eval x) := by
  cases x with
  | tmp t => exact hr.fr t
  | const v =>
    cases v with
    | agg cs =>
      refine ⟨cs, rfl, by simp, fun i c hi => ?_⟩
      rw [List.getElem?_map] at hi
      cases hci : cs.toList[i]? with
      | none => rw [hci] at hi; cases hi
      | some u =>
        rw [hci] at hi
        simp only [Option.map_some, Option.some.injEq] at hi
        subst hi
        have hat := List.all_eq_true.1 hc u (List.mem_of_getElem? hci)
        refine ⟨u, by simpa using hci, atomB_one hat, .v u ?_⟩
        exact List.all_eq_true.1 hc u (List.mem_of_getElem? hci)
    | _ => exact ⟨.inr (atomB_one hc), RP.v _ hc⟩
  | global g => exact ⟨.inl rfl, trivial⟩
  | func g => exact ⟨.inl rfl, trivial⟩
end
inductive KD where
  | int (k : IntKind) | bool | string | slice (e : Nat) | array (n e : Nat) | struct (fs : List (Nat × Nat)) | ptr (e : Nat) | other
def KD.agg : KD → Bool
  | .array _ _ | .struct _ => true
  | _ => false
def kdOf : TypeDesc → KD
  | .int k => .int k
  | .bool => .bool
  | .string => .string
  | .slice e => .slice e
  | .array n e => .array n e
  | .struct fs => .struct (fs.toList.map fun f => (f.offset, f.type))
  | .pointer e => .ptr e
  | _ => .other
structure TE where
  kd : KD
  size : Nat
  bytes : Nat
  zero : Value
def teOf (P : Program) (t : Nat) : Option TE :=
  match P.underlying t, P.info? t with
  | some d, some i => i.zero.map fun z => ⟨kdOf d, i.size, i.bytes, z⟩
  | _, _ => none
class Tb (P : Program) where
  ty : List (Nat × TE)
  ok : ∀ t x, lkN ty t = some x → teOf P t = some x
section
variable {P : Program} {t : Nat} {x : TE} {w : World}
theorem run_und {d : TypeDesc} (h : P.underlying t = some d) (w : World) : (underlying t).run P w = .ok d w := run_underlying h w
theorem run_inf {i : TypeInfo} (h : P.info? t = some i) (w : World) : (typeInfo t).run P w = .ok i w := by
  simp [typeInfo, program, Sem.run_bind, h, Sem.run]
theorem run_load1 {a : Addr} {v : Value} (hc : w.cell? a = some v) : (load a).run P w = .ok v w := by
  unfold load
  simp only [Sem.run]
  split
  · rename_i v' h'; rw [hc] at h'; cases h'; rfl
  · rename_i h'; rw [hc] at h'; cases h'
end
theorem addr_add (g q j : Nat) : (⟨g, q, none⟩ : Addr).add j = ⟨g, q + j, none⟩ := by unfold Addr.add; split <;> simp_all
section
variable {E : En} {N : Nat} {P : Program} {ops : Array Oper} {o : Oper} {st : St} {r : List Oper} {acc : List (Fp × Ef)} {K : List (Fp × Ef) → St → Prop} {d : Nat} {ty : Nat} {pos : String} {af : Array Edge} {gd : Option (Nat × Bool)}
def Run (E : En) (N : Nat) (P : Program) (ops : Array Oper) : List Oper → List (Fp × Ef) → St → (List (Fp × Ef) → St → Prop) → Prop
  | [], acc, st, K => K acc st
  | o :: r, acc, st, K => ∃ f ef, OpAt E N P ops o st f ef ∧ Run E N P ops r ((f, ef) :: acc) (ef.ap o st) K
theorem run_seq : ∀ {l : List Oper} {acc : List (Fp × Ef)} {st : St}, Run E N P ops l acc st K → ∃ es st', Seq E N P ops l st es st' ∧ K (es.reverse ++ acc) st' := by
  intro l
  induction l with
  | nil => intro acc st h; unfold Run at h; exact ⟨[], st, .nil st, by simpa using h⟩
  | cons o l ih =>
    intro acc st h
    obtain ⟨f, ef, h1, h2⟩ := h
    obtain ⟨es, st', h3, h4⟩ := ih h2
    exact ⟨(f, ef) :: es, st', .cons h1 h3, by simpa using h4⟩
theorem run_nil (h : K acc st) : Run E N P ops [] acc st K := by unfold Run; exact h
variable {op : Op} {f : Fp} {t : TV} {fr : List (Nat × TV)} {H : List (Bid × Option Bk)}
theorem run_op0 (hw : wn ops ⟨some d, op, ty, pos, af, gd⟩ ⟨fr, H⟩ = some true) (hop : OpL E N P ops ⟨some d, op, ty, pos, af, gd⟩ ⟨fr, H⟩ f ⟨t, []⟩)
    (h : Run E N P ops r ((f, ⟨t, []⟩) :: acc) ⟨(d, t) :: fr, H⟩ K) : Run E N P ops (⟨some d, op, ty, pos, af, gd⟩ :: r) acc ⟨fr, H⟩ K := ⟨f, ⟨t, []⟩, .inl ⟨hw, hop⟩, h⟩
theorem opL_move {x : Operand} {t : TV} (hc : okC x = true) (hx : st.ev x = t) : OpL E N P ops ⟨some d, .move x, ty, pos, af, gd⟩ st ⟨[], []⟩ ⟨t, []⟩ :=
  opL_pure fun st' cx a w ha hr => ⟨a.eval x, rfl, by rw [← hx, ← ev_agree ha (x := x) (by simp [Op.operands])]; exact hr.ev hc⟩
theorem run_guard_one {op : BinOp} {xt : TypeId} {x y : Operand} {a b : Value} (ha : ∀ cs, a ≠ .agg cs) (hb : a ≠ .nilIface) (w : World) : (eqGuard op xt x y a b).run P w = .ok () w := by
  unfold eqGuard
  cases op <;> simp [Sem.run_pure] <;> cases a <;> simp_all [Sem.run_pure] <;> cases b <;> simp [Sem.run_pure]
end
section
variable {E : En} {N : Nat} {P : Program} {T : Tb P} {ops : Array Oper} {o : Oper} {st : St} {d : Nat} {ty : Nat} {pos : String} {af : Array Edge} {gd : Option (Nat × Bool)}
end
section
variable {E : En} {N : Nat} {P : Program} {T : Tb P} {ops : Array Oper} {o : Oper} {st : St} {d : Nat} {ty : Nat} {pos : String} {af : Array Edge} {gd : Option (Nat × Bool)}
theorem run_bounds {sl : Bool} {len cap lo hi : Nat} {a : Act} {x y : Option Operand} {w : World} (hx : (x = none ∧ lo = 0) ∨ ∃ z k, x = some z ∧ a.eval z = .int k lo) (hy : (y = none ∧ hi = len) ∨ ∃ z k, y = some z ∧ a.eval z = .int k hi) (h1 : lo ≤ hi) (h2 : hi ≤ cap) :
    (Instr.sliceBounds sl len cap (x.map a.eval) (y.map a.eval) none).run P w = .ok (lo, hi, cap) w := by
  have hb : ∀ (k : IntKind) (n m : Nat) (c : BoundsCode), n ≤ m → (Instr.sliceBound (.int k n) m c).run P w = .ok n w := by
    intro k n m c h
    simp only [Instr.sliceBound, asIntOf, Sem.run_bind, Sem.run_pure, Result.andThen_ok]
    rw [if_pos (by omega)]
    simp [Sem.run_pure]
  rcases hx with ⟨rfl, rfl⟩ | ⟨z, k, rfl, hz⟩ <;> rcases hy with ⟨rfl, rfl⟩ | ⟨z', k', rfl, hz'⟩ <;>
    simp [Instr.sliceBounds, Sem.run_bind, Sem.run_pure, Result.andThen_ok, hb, h1, h2, *]
end
def Cx.upd (cx : Cx) (b : Bid) (x : Option (Nat × Nat)) : Cx := ⟨fun b' => if b' = b then x else cx.ι b', cx.A, cx.F⟩
section
variable {E : En} {N : Nat} {P : Program} {T : Tb P} {ops : Array Oper} {o : Oper} {st : St} {d : Nat} {ty : Nat} {pos : String} {af : Array Edge} {gd : Option (Nat × Bool)} {cx : Cx} {a : Act} {w w' : World} {v : Value}
theorem push_new {ob : Obj} (hh : w'.heap = w.heap.push ob) : w'.heap[w.heap.size]? = some ob := by rw [hh]; simp
theorem Fr4.nil {h h' : Bid → Option Bk} {b : Bid} {bk : Bk} (hh : ∀ b', h' b' = if b' = b then some bk else h b') (hno : bk.noObj = true) : Fr4 cx h w (cx.upd b none) h' w := by
  refine ⟨rfl, fun b' I e n hb' => ?_, fun x _ => .inl rfl, fun x h => .inl h, fun b' g q hb' hi => ?_⟩
  · by_cases e1 : b' = b
    · rw [hh, if_pos e1] at hb'; cases hb'; cases hno
    · rw [hh, if_neg e1] at hb'; exact ⟨hb', by simp [Cx.upd, e1]⟩
  · simp only [Cx.upd] at hi
    by_cases e1 : b' = b
    · rw [if_pos e1] at hi; cases hi
    · rw [if_neg e1] at hi; rw [hh, if_neg e1] at hb'; exact .inr (.inr ⟨hb', q, hi⟩)
theorem Fr4.see {h h' : Bid → Option Bk} {b : Bid} {bk0 bk : Bk} {A' : Nat → Prop} (hh : ∀ b', h' b' = if b' = b then some bk else h b') (hb : h b = some bk0) (hno0 : bk0.noObj = true) (hno : bk.noObj = true) (hA : ∀ x, A' x → cx.A x ∨ ∃ q, cx.ι b = some (x, q)) : Fr4 cx h w ⟨cx.ι, A', cx.F⟩ h' w := by
  refine ⟨rfl, fun b' I e n hb' => ?_, fun x _ => .inl rfl, fun x h => (hA x h).elim .inl fun ⟨q, hq⟩ => .inr (.inr ⟨b, bk0, q, hb, hno0, hq⟩), fun b' g q hb' hi => ?_⟩
  · by_cases e1 : b' = b
    · rw [hh, if_pos e1] at hb'; cases hb'; cases hno
    · rw [hh, if_neg e1] at hb'; exact ⟨hb', rfl⟩
  · by_cases e1 : b' = b
    · exact .inr (.inr ⟨by rw [e1, hb]; simp, q, hi⟩)
    · rw [hh, if_neg e1] at hb'; exact .inr (.inr ⟨hb', q, hi⟩)
def TV.cells : TV → List CV
  | .c x => [x]
  | .agg cs => cs
  | .tup _ => []
def TV.known : TV → Bool
  | .c .any => false
  | .tup _ => false
  | _ => true
def setAt {α : Type} : List α → Nat → List α → List α
  | cs, 0, [] => cs
  | _ :: cs, 0, v :: vs => v :: setAt cs 0 vs
  | c :: cs, k + 1, vs => c :: setAt cs k vs
  | [], _, _ => []
theorem setAt_eq {α : Type} : ∀ (cs : List α) (k : Nat) (vs : List α), k + vs.length ≤ cs.length → setAt cs k vs = cs.take k ++ vs ++ cs.drop (k + vs.length)
  | cs, 0, [], _ => by cases cs <;> simp [setAt]
  | [], 0, v :: vs, h => by simp at h
  | c :: cs, 0, v :: vs, h => by
    simp only [setAt]
    rw [setAt_eq cs 0 vs (by simpa using h)]
    simp
  | [], k + 1, vs, h => by simp at h
  | c :: cs, k + 1, vs, h => by
    simp only [setAt]
    rw [setAt_eq cs k vs (by simp at h; omega)]
    simp [Nat.add_right_comm]
theorem setAt_at {α : Type} (cs : List α) (k : Nat) (vs : List α) (h : k + vs.length ≤ cs.length) (i : Nat) : (setAt cs k vs)[i]? = if i < k ∨ k + vs.length ≤ i then cs[i]? else vs[i - k]? := by
  rw [setAt_eq cs k vs h, List.append_assoc, List.getElem?_append, List.getElem?_append]
  simp only [List.length_take]
  have hk : min k cs.length = k := by omega
  rw [hk]
  by_cases h1 : i < k
  · rw [if_pos h1, if_pos (.inl h1), List.getElem?_take, if_pos h1]
  · rw [if_neg h1]
    by_cases h2 : i - k < vs.length
    · rw [if_pos h2, if_neg (by omega)]
    · rw [if_neg h2, if_pos (by omega), List.getElem?_drop]
      congr 1
      omega
theorem szk_row {w : World} {g : Nat} {c c' : Array Value} {el : TypeId} {fz : Nat × Nat} (hg : w.heap[g]? = some (.cells c el fz)) (hs : c'.size = c.size) : SzK w (w.setRow g c') := fun g2 c2 el2 fz2 h2 => by
  by_cases e : g2 = g
  · subst e
    rw [hg] at h2; cases h2
    exact ⟨c', el, _, setRow_heap w g2 c c' el _ hg, hs⟩
  · exact ⟨c2, el2, fz2, by rw [setRow_other w g g2 c' e]; exact h2, rfl⟩
end
def RowsR (w : World) (A : Nat → Prop) (e : Nat) (rows : List (List PV)) (us : List Value) : Prop :=
  us.length = rows.length * e ∧ (∀ r ∈ rows, r.length = e) ∧ ∀ (i : Nat) (r : List PV) (k : Nat) (p : PV), rows[i]? = some r → r[k]? = some p → ∃ u, us[i * e + k]? = some u ∧ RP w A p u
theorem RowsR.nil (w : World) (A : Nat → Prop) (e : Nat) : RowsR w A e [] [] := ⟨by simp, by simp, by simp⟩
theorem RowsR.one {w : World} {A : Nat → Prop} {e : Nat} {rows : List (List PV)} {us : List Value} (he : 0 < e) (h : RowsR w A e rows us) : ∀ u ∈ us, u.oneCell' = true := by
  intro u hu
  obtain ⟨j, hj, rfl⟩ := List.getElem_of_mem hu
  obtain ⟨h1, h2, h3⟩ := h
  have hi : j / e < rows.length := by
    rw [Nat.div_lt_iff_lt_mul he]; omega
  have hk : j % e < e := Nat.mod_lt _ he
  have hr := h2 _ (List.getElem_mem hi)
  obtain ⟨u, hu2, hp⟩ := h3 (j / e) rows[j / e] (j % e) (rows[j / e][j % e]'(by omega)) (List.getElem?_eq_getElem hi) (List.getElem?_eq_getElem (by omega))
  rw [Nat.mul_comm, Nat.div_add_mod] at hu2
  rw [List.getElem?_eq_getElem hj] at hu2
  cases hu2
  exact hp.one
theorem RowsR.keeps {w w' : World} {A A' : Nat → Prop} {e : Nat} {rows : List (List PV)} {us : List Value} (h : RowsR w A e rows us) (hA : ∀ g, A g → A' g) (hk : Keeps A w w') : RowsR w' A' e rows us :=
  ⟨h.1, h.2.1, fun i r k p hi hk' => let ⟨u, hu, hp⟩ := h.2.2 i r k p hi hk'; ⟨u, hu, hp.keeps hA hk⟩⟩
section
variable {E : En} {N : Nat} {P : Program} {T : Tb P} {ops : Array Oper} {o : Oper} {st : St} {d : Nat} {ty : Nat} {pos : String} {af : Array Edge} {gd : Option (Nat × Bool)} {cx : Cx} {a : Act} {w w' : World} {v : Value}
end
section
variable {E : En} {N : Nat} {P : Program} {T : Tb P} {ops : Array Oper} {o : Oper} {st : St} {d : Nat} {ty : Nat} {pos : String} {af : Array Edge} {gd : Option (Nat × Bool)} {cx : Cx} {a : Act} {w w' : World} {v : Value}
end
section
variable {E : En} {N : Nat} {P : Program} {Q : Exit → St → Prop} {st : St}
def AW (E : En) (N : Nat) (P : Program) (c : Code) (Q : Exit → St → Prop) (st : St) : Prop :=
  ∀ cx a w, Rel E N cx st a w → c.wp P (fun e a' w' => ∃ st' cx', Q e st' ∧ Rel E N cx' st' a' w') a w
def freshB (b : Bid) (st : St) : Bool := st.fr.all (fun x => !memB x.2.ment b) && st.H.all fun x => match x.2 with
  | none => true
  | some bk => !beqB x.1 b && !memB bk.ment b
theorem freshB_spec {b : Bid} (h : freshB b st = true) : FreshB b st := by
  simp only [freshB, Bool.and_eq_true, List.all_eq_true] at h
  obtain ⟨h1, h2⟩ := h
  refine ⟨?_, fun s hm => ?_, fun b' bk hb hm => ?_⟩
  · unfold St.h
    cases hl : lkB st.H b with
    | none => rfl
    | some x =>
      have := h2 _ (lkB_mem hl)
      cases x with
      | none => rfl
      | some bk => simp [beqB_iff.2 rfl] at this
  · unfold St.g at hm
    cases hl : lkN st.fr s with
    | none => rw [hl] at hm; simp [TV.ment, CV.ment] at hm
    | some t =>
      rw [hl, Option.getD_some] at hm
      have := h1 _ (lkN_mem hl)
      simp only [Bool.not_eq_true'] at this
      rw [memB_iff.2 hm] at this
      cases this
  · unfold St.h at hb
    cases hl : lkB st.H b' with
    | none => rw [hl] at hb; cases hb
    | some x =>
      rw [hl] at hb
      simp only [Option.getD_some] at hb
      subst hb
      have := h2 _ (lkB_mem hl)
      simp only [Bool.and_eq_true, Bool.not_eq_true'] at this
      rw [memB_iff.2 hm] at this
      cases this.2
def freshA (st : St) (acc : List (Fp × Ef)) : Bool := acc.all fun x => x.1.al.all fun b => freshB b st
theorem freshA_spec {acc : List (Fp × Ef)} (h : freshA st acc = true) : ∀ x ∈ acc, ∀ b ∈ x.1.al, FreshB b st := fun x hx b hb => freshB_spec (List.all_eq_true.1 (List.all_eq_true.1 h x hx) b hb)
theorem aw_draw {id : Nat} {l : List Oper} (hm : P.follows .mixedOrders = true) (hS : schS N l = true) (h : Run E N P l.toArray l [] st fun acc st' => chkD l acc.reverse = true ∧ freshA st acc = true ∧ Q .normal st') : AW E N P (.region id l.toArray true) Q st := by
  intro cx a w hr
  obtain ⟨es, st', h1, h2⟩ := run_seq h
  simp only [List.append_nil, List.reverse_reverse] at h2
  obtain ⟨h3, h4, h5⟩ := h2
  refine wp_mono (region_any hm hS h3 h1 (fun i f ef hi b hb => freshA_spec h4 (f, ef) (by simpa using List.mem_of_getElem? hi) b hb) hr) ?_
  rintro e a' w' ⟨rfl, cx', h6⟩
  exact ⟨st', cx', h5, h6⟩
def CV.ren (σ : List (Bid × Bid)) : CV → CV
  | .ptr b i k => match lkB σ b with
    | some b' => .ptr b' i k
    | none => .any
  | .sl b off n => match lkB σ b with
    | some b' => .sl b' off n
    | none => .any
  | .mp b => match lkB σ b with
    | some b' => .mp b'
    | none => .any
  | c => c
def TV.ren1 (σ : List (Bid × Bid)) : TV → TV
  | .c x => .c (x.ren σ)
  | .agg cs => .agg (cs.map (CV.ren σ))
  | .tup _ => .c .any
def Bk.ren (σ : List (Bid × Bid)) : Bk → Bk
  | .row e rows mu => .row e rows mu
  | .box cs f => .box (cs.map (CV.ren σ)) f
  | .map ks => .map ks
  | .mv ks => .mv ks
  | .tab e n cs => .tab e n (cs.map (CV.ren σ))
  | .obj I e n => .obj I e n
def St.norm (ks : List Nat) (σ : List (Bid × Bid)) (st : St) : St := ⟨ks.map fun s => (s, (st.g s).ren1 σ), σ.map fun x => (x.2, (st.h x.1).map (Bk.ren σ))⟩
def nodB : List Bid → Bool
  | [] => true
  | a :: r => !memB r a && nodB r
theorem lkB_nod {α : Type} {l : List (Bid × α)} (h : nodB (l.map (·.1)) = true) {b : Bid} {x : α} (hm : (b, x) ∈ l) : lkB l b = some x := by
  induction l with
  | nil => cases hm
  | cons y r ih =>
    obtain ⟨c, z⟩ := y
    simp only [List.map_cons, nodB, Bool.and_eq_true, Bool.not_eq_true'] at h
    rcases List.mem_cons.1 hm with e | hm
    · cases e; simp only [lkB]; rw [beqB_iff.2 rfl]
    · simp only [lkB]
      have : beqB c b = false := by
        cases hb : beqB c b with
        | false => rfl
        | true =>
          have e := beqB_iff.1 hb
          subst e
          rw [memB_iff.2 (List.mem_map.2 ⟨_, hm, rfl⟩)] at h
          cases h.1
      rw [this]
      exact ih h.2 hm
def okS (σ : List (Bid × Bid)) : Bool := nodB (σ.map (·.1)) && nodB (σ.map (·.2)) && σ.all fun x => !(beqB x.2 pinB || Nat.ble 65537 x.2.1) || beqB x.1 x.2
theorem Rel.norm {cx : Cx} {a : Act} {w : World} {ks : List Nat} {σ : List (Bid × Bid)} (hσ : okS σ = true) (hr : Rel E N cx st a w) : ∃ cx', Rel E N cx' (st.norm ks σ) a w := by
  simp only [okS, Bool.and_eq_true] at hσ
  obtain ⟨⟨h1, h2⟩, hp⟩ := hσ
  -- the elder name of a new one
  have hback : ∃ β : Bid → Option Bid, (∀ b b', (b, b') ∈ σ → β b' = some b) ∧ ∀ b' b, β b' = some b → (b, b') ∈ σ := by
    refine ⟨fun b' => lkB (σ.map fun x => (x.2, x.1)) b', fun b b' hm => lkB_nod (by rw [List.map_map]; exact h2) (List.mem_map.2 ⟨(b, b'), hm, rfl⟩), fun b' b hb => ?_⟩
    have := lkB_mem hb
    rw [List.mem_map] at this
    obtain ⟨x, hx, e⟩ := this
    cases e
    exact hx
  obtain ⟨β, hβ1, hβ2⟩ := hback
  have hnh : ∀ b' bk', (st.norm ks σ).h b' = some bk' → ∃ b bk, β b' = some b ∧ st.h b = some bk ∧ bk' = bk.ren σ ∧ (b, b') ∈ σ := by
    intro b' bk' hb
    unfold St.h St.norm at hb
    cases hl : lkB (σ.map fun x => (x.2, (st.h x.1).map (Bk.ren σ))) b' with
    | none => rw [hl] at hb; cases hb
    | some y =>
      rw [hl] at hb
      simp only [Option.getD_some] at hb
      subst hb
      have := lkB_mem hl
      rw [List.mem_map] at this
      obtain ⟨⟨b, b2⟩, hx, e⟩ := this
      simp only [Prod.mk.injEq] at e
      obtain ⟨rfl, e2⟩ := e
      rw [Option.map_eq_some_iff] at e2
      obtain ⟨bk, h3, h4⟩ := e2
      exact ⟨b, bk, hβ1 b b2 hx, h3, h4.symm, hx⟩
  have hlk : ∀ b b', (b, b') ∈ σ → lkB σ b = some b' := fun b b' hm => lkB_nod h1 hm
  have hre : ∀ bk : Bk, (bk.ren σ).e = bk.e ∧ (bk.ren σ).len = bk.len := fun bk => by cases bk <;> exact ⟨rfl, rfl⟩
  let cx' : Cx := ⟨fun b' => if PinI b' then cx.ι b' else (β b').bind cx.ι, cx.A, fun b' x => ∃ b, β b' = some b ∧ cx.F b x⟩
  have hpin : ∀ b b', (b, b') ∈ σ → PinI b' → b = b' := by
    intro b b' hm e
    have := List.all_eq_true.1 hp (b, b') hm
    have e2 : (beqB b' pinB || Nat.ble 65537 b'.1) = true := by
      rcases e with e | e
      · rw [beqB_iff.2 e]; rfl
      · rw [Nat.ble_eq_true_of_le e]; exact Bool.or_true _
    simp only [e2, Bool.not_true, Bool.false_or] at this
    exact beqB_iff.1 this
  have hι : ∀ b b', β b' = some b → cx'.ι b' = cx.ι b := fun b b' h => by
    show (if PinI b' then cx.ι b' else (β b').bind cx.ι) = _
    by_cases e : PinI b'
    · rw [if_pos e, hpin b b' (hβ2 b' b h) e]
    · rw [if_neg e, h]; rfl
  have hpi : ∀ b, PinI b → cx'.ι b = cx.ι b := fun b hb => if_pos hb
  have hRC : ∀ (c : CV) (v : Value), RC cx w st.h c v → RC cx' w (st.norm ks σ).h (c.ren σ) v := by
    intro c v hc
    cases c with
    | any => trivial
    | p x => exact hc
    | ep row k => exact hc
    | ptr b i k =>
      simp only [CV.ren]
      cases hl : lkB σ b with
      | none => trivial
      | some b' =>
        intro bk' hbk
        obtain ⟨b2, bk, h3, h4, rfl, h5⟩ := hnh b' bk' hbk
        have hm := lkB_mem hl
        have : β b' = some b := hβ1 b b' hm
        rw [this] at h3
        cases h3
        obtain ⟨g, o, h6, h7⟩ := hc bk h4
        exact ⟨g, o, by rw [hι b b' this]; exact h6, by rw [(hre bk).1]; exact h7⟩
    | sl b off n =>
      simp only [CV.ren]
      cases hl : lkB σ b with
      | none => trivial
      | some b' =>
        intro bk' hbk
        obtain ⟨b2, bk, h3, h4, rfl, h5⟩ := hnh b' bk' hbk
        have hm := lkB_mem hl
        have : β b' = some b := hβ1 b b' hm
        rw [this] at h3
        cases h3
        obtain ⟨a', cap, h6, h7, h8, h9, h10⟩ := hc bk h4
        refine ⟨a', cap, h6, h7, h8, by rw [(hre bk).2]; exact h9, ?_⟩
        rw [(hre bk).1, hι b b' this]
        exact h10
    | mp b =>
      simp only [CV.ren]
      cases hl : lkB σ b with
      | none => trivial
      | some b' =>
        intro bk' hbk
        obtain ⟨b2, bk, h3, h4, rfl, h5⟩ := hnh b' bk' hbk
        have hm := lkB_mem hl
        have : β b' = some b := hβ1 b b' hm
        rw [this] at h3
        cases h3
        obtain ⟨g, h6, h7⟩ := hc bk h4
        exact ⟨g, by rw [hι b b' this]; exact h6, h7⟩
  have hone : ∀ (c : CV) (v : Value), (c = .any ∨ v.oneCell' = true) → (c.ren σ = .any ∨ v.oneCell' = true) := by
    rintro c v (rfl | h)
    · exact .inl rfl
    · exact .inr h
  have hRL : ∀ (cs : List CV) (vs : Array Value), RL cx w st.h cs vs → RL cx' w (st.norm ks σ).h (cs.map (CV.ren σ)) vs := by
    intro cs vs h
    refine ⟨by rw [h.1]; simp, fun i c hc => ?_⟩
    rw [List.getElem?_map, Option.map_eq_some_iff] at hc
    obtain ⟨c0, hc0, rfl⟩ := hc
    obtain ⟨u, hu, h3, h4⟩ := h.2 i c0 hc0
    exact ⟨u, hu, h3, hRC c0 u h4⟩
  refine ⟨cx', hr.defers, hr.size, fun s => ?_, fun b' bk' hb => ?_, fun b b' g o g' o' hb hb' hi hi' hne => ?_, fun b g o hb hi => ?_, hr.A, hr.A0, hr.kept, hr.sz, hr.os, hr.tape, hr.output, hr.hN, fun b hb => (hpi b hb).trans (hr.pin b hb), hr.cz, ?_⟩
  · have hg : (st.norm ks σ).g s = (st.g s).ren1 σ ∨ (st.norm ks σ).g s = .c .any := by
      unfold St.g St.norm
      cases hl : lkN (ks.map fun s => (s, (st.g s).ren1 σ)) s with
      | none => exact .inr rfl
      | some y =>
        have := lkN_mem hl
        rw [List.mem_map] at this
        obtain ⟨s', _, e⟩ := this
        cases e
        exact .inl rfl
    rcases hg with hg | hg
    · rw [hg]
      have := hr.fr s
      revert this
      cases st.g s with
      | c x => exact fun h => ⟨hone x _ h.1, hRC x _ h.2⟩
      | agg cs => rintro ⟨vs, h3, h4⟩; exact ⟨vs, h3, hRL _ _ h4⟩
      | tup ts => exact fun _ => ⟨.inl rfl, trivial⟩
    · rw [hg]; exact ⟨.inl rfl, trivial⟩
  · obtain ⟨b, bk, h3, h4, rfl, h5⟩ := hnh b' bk' hb
    have := hr.bl b bk h4
    cases bk with
    | row e rows mu =>
      obtain ⟨h6, h7, h8⟩ := this
      exact ⟨h6, h7, by rw [hι b b' h3]; exact h8⟩
    | box cs f =>
      obtain ⟨g, o, c, el, h6, h7, h8, h9, h10, hfm⟩ := this
      refine ⟨g, o, c, el, by rw [hι b b' h3]; exact h6, h7, h8, by simpa using h9, fun k x hx => ?_, by rw [List.length_map]; exact hfm⟩
      rw [List.getElem?_map, Option.map_eq_some_iff] at hx
      obtain ⟨x0, hx0, rfl⟩ := hx
      obtain ⟨cv, h11, h12, h13⟩ := h10 k x0 hx0
      exact ⟨cv, h11, h12, hRC x0 cv h13⟩
    | map ks' =>
      obtain ⟨g, es, clk, h6, h7, h8, h9⟩ := this
      exact ⟨g, es, clk, by rw [hι b b' h3]; exact h6, h7, h8, h9⟩
    | mv ks' =>
      obtain ⟨g, es, clk, h6, h7, h8, h9⟩ := this
      exact ⟨g, es, clk, by rw [hι b b' h3]; exact h6, h7, h8, h9⟩
    | tab e n cs =>
      obtain ⟨g, c, el, h6, h7, h8, h9, h10, h11⟩ := this
      refine ⟨g, c, el, by rw [hι b b' h3]; exact h6, h7, h8, by simpa using h9, by simpa using h10, fun k x hx => ?_⟩
      rw [List.getElem?_map, Option.map_eq_some_iff] at hx
      obtain ⟨x0, hx0, rfl⟩ := hx
      obtain ⟨cv, h12, h13, h14⟩ := h11 k x0 hx0
      exact ⟨cv, h12, h13, hRC x0 cv h14⟩
    | obj I e n => trivial
  · obtain ⟨bk, hbk⟩ := Option.ne_none_iff_exists'.1 hb
    obtain ⟨bk', hbk'⟩ := Option.ne_none_iff_exists'.1 hb'
    obtain ⟨c, k, h3, h4, _, h5⟩ := hnh b bk hbk
    obtain ⟨c', k', h6, h7, _, h8⟩ := hnh b' bk' hbk'
    rw [hι c b h3] at hi
    rw [hι c' b' h6] at hi'
    refine hr.inj c c' g o g' o' (by rw [h4]; simp) (by rw [h7]; simp) hi hi' ?_
    rintro rfl
    have e1 := hlk c b h5
    have e2 := hlk c b' h8
    rw [e1] at e2
    exact hne (Option.some.inj e2)
  · obtain ⟨bk, hbk⟩ := Option.ne_none_iff_exists'.1 hb
    obtain ⟨c, k, h3, h4, _, h5⟩ := hnh b bk hbk
    rw [hι c b h3] at hi
    exact hr.own c g o (by rw [h4]; simp) hi
  · have hF : ∀ b b', β b' = some b → cx'.F b' = cx.F b := fun b b' h => by
      funext x
      show (∃ b2, β b' = some b2 ∧ cx.F b2 x) = _
      rw [h]
      exact propext ⟨fun ⟨b2, e1, e2⟩ => by cases e1; exact e2, fun e2 => ⟨b, rfl, e2⟩⟩
    have hobj : ∀ b' I e n, (st.norm ks σ).h b' = some (.obj I e n) → ∃ b, β b' = some b ∧ st.h b = some (.obj I e n) ∧ (b, b') ∈ σ := by
      intro b' I e n hb
      obtain ⟨b, bk, h3, h4, h5, h6⟩ := hnh b' _ hb
      cases bk <;> cases h5
      exact ⟨b, h3, h4, h6⟩
    intro b' I e n hb
    obtain ⟨b, h3, h4, h5⟩ := hobj b' I e n hb
    obtain ⟨⟨g, i1, i2⟩, i3⟩ := hr.ob b I e n h4
    refine ⟨⟨g, by rw [hι b b' h3]; exact i1, by rw [hF b b' h3]; exact i2⟩, fun x hx => ?_⟩
    rw [hF b b' h3] at hx
    refine ⟨(i3 x hx).1, fun c' g' q hc hi => ?_, fun c' I' e' n' hc hx' => ?_⟩
    · obtain ⟨bk, hbk⟩ := Option.ne_none_iff_exists'.1 hc
      obtain ⟨c, k, h6, h7, _, h8⟩ := hnh c' bk hbk
      rw [hι c c' h6] at hi
      exact (i3 x hx).2.1 c g' q (by rw [h7]; simp) hi
    · obtain ⟨c, h6, h7, h8⟩ := hobj c' I' e' n' hc
      rw [hF c c' h6] at hx'
      have e1 := (i3 x hx).2.2 c I' e' n' h7 hx'
      subst e1
      have e2 := hlk c b' h5
      rw [hlk c c' h8] at e2
      exact Option.some.inj e2
end
inductive RV where
  | p (x : PV)
  | own (e : Nat) (rows : List (List PV))
  | obj (I : OPr)
  | tbl (I : OPr) (e n : Nat)
  | mv (es : List (Int × PV))
  | mo (I : OPr)
structure Gs where
  r : Nat → Option Nat
  S : Nat → Nat → Prop
instance : CoeFun Gs (fun _ => Nat → Option Nat) := ⟨Gs.r⟩
def Gs.In (gs : Gs) (x : Nat) : Prop := (∃ n, gs n = some x) ∨ ∃ n, gs.S n x
def Gs.none : Gs := ⟨fun _ => .none, fun _ _ => False⟩
inductive RS where
  | c (x : RV)
  | agg (cs : List RV)
inductive AV where
  | c (x : PV)
  | agg (xs : List PV)
  | ref (cs : List RV)
  | ep (row : List PV)
def RS.cells : RS → List RV
  | .c x => [x]
  | .agg cs => cs
def OwnR (w : World) (A : Nat → Prop) (go : Option Nat) (e : Nat) (rows : List (List PV)) (v : Value) : Prop :=
  0 < e ∧ (∀ r ∈ rows, r.length = e) ∧ ∃ a cap, v = .slice a rows.length cap ∧ rows.length ≤ cap ∧ cap ≤ maxLen ∧
    (cap = 0 ∨ ∃ g c el, go = some g ∧ a = some ⟨g, 0, none⟩ ∧ ¬ A g ∧ w.heap[g]? = some (.cells c el (0, 0)) ∧ c.size = cap * e ∧ ∀ (i : Nat) (r : List PV) (k : Nat) (p : PV), rows[i]? = some r → r[k]? = some p → ∃ cv, c[i * e + k]? = some cv ∧ RP w A p cv)
def RVr (w : World) (A : Nat → Prop) (go : Option Nat) (S : Nat → Prop) : RV → Value → Prop
  | .p x, v => RP w A x v
  | .own e rows, v => OwnR w A go e rows v
  | .obj I, v => ∃ g, go = some g ∧ v = .pointer (some ⟨g, 0, none⟩) ∧ I.ok w A S g
  | .mo I, v => ∃ g, go = some g ∧ v = .map (some g) ∧ I.ok w A S g
  | .tbl I e n, v => ∃ g cap c el fz, go = some g ∧ v = .slice (some ⟨g, 0, none⟩) n cap ∧ 0 < n ∧ n ≤ cap ∧ cap ≤ maxLen ∧ w.heap[g]? = some (.cells c el fz) ∧ (0 < e → c.size = cap * e) ∧ I.ok w A S g
  | .mv ks, v => ∃ (g : Nat) (es : Array MapEntry) (clk : Nat), go = some g ∧ v = .map (some g) ∧ w.heap[g]? = some (.map es clk) ∧ ¬ A g ∧ es.toList.map (fun e => e.key) = ks.map (fun x => Value.int .i64 x.1) ∧ ∀ (i : Nat) (x : Int × PV), ks[i]? = some x → ∃ v, es[i]?.map (fun e => e.val) = some v ∧ v.oneCell' = true ∧ RP w A x.2 v
def CsR (w : World) (A : Nat → Prop) (gs : Gs) : Nat → List RV → List Value → Prop
  | _, [], [] => True
  | n, x :: r, u :: us => u.oneCell' = true ∧ RVr w A (gs n) (gs.S n) x u ∧ CsR w A gs (n + 1) r us
  | _, _, _ => False
def RSr (w : World) (A : Nat → Prop) (gs : Gs) (n : Nat) : RS → Value → Prop
  | .c x, v => CsR w A gs n [x] [v]
  | .agg cs, v => ∃ vs, v = .agg vs ∧ CsR w A gs n cs vs.toList
def TsR (w : World) (A : Nat → Prop) (gs : Gs) : Nat → List RS → List Value → Prop
  | _, [], [] => True
  | n, t :: ts, v :: vs => RSr w A gs n t v ∧ TsR w A gs (n + t.cells.length) ts vs
  | _, _, _ => False
def ValR (w : World) (A : Nat → Prop) (gs : Gs) : List RS → Value → Prop
  | [t], v => RSr w A gs 0 t v
  | ts, v => ∃ vs, v = .tuple vs ∧ TsR w A gs 0 ts vs.toList
def flatR (r : List RS) : List RV := r.flatMap RS.cells
def AVr (w : World) (A : Nat → Prop) (gs : Gs) (g q : Nat) : AV → Value → Prop
  | .c x, v => RP w A x v
  | .agg xs, v => ∃ vs, v = .agg vs ∧ CsR w A Gs.none 0 (xs.map .p) vs.toList
  | .ep row, v => ∃ g' off, v = .pointer (some ⟨g', off + 0, none⟩) ∧ A g' ∧ g' < w.heap.size ∧ ∀ j p, row[j]? = some p → ∃ c, w.cell? ⟨g', off + j, none⟩ = some c ∧ RP w A p c
  | .ref cs, v => q = 0 ∧ v = .pointer (some ⟨g, q, none⟩) ∧ ∃ c el, w.heap[g]? = some (.cells c el (0, 0)) ∧ ¬ A g ∧ q + cs.length ≤ c.size ∧ CsR w A gs 0 cs ((c.toList.drop q).take cs.length)
def AsR (w : World) (A : Nat → Prop) (gs : Gs) (g q : Nat) : List AV → List Value → Prop
  | [], [] => True
  | a :: avs, v :: vs => AVr w A gs g q a v ∧ AsR w A gs g q avs vs
  | _, _ => False
def AV.isRef : AV → Bool
  | .ref _ => true
  | _ => false
structure inj1 (gs : Gs) : Prop where
  r : ∀ n m x, gs n = some x → gs m = some x → n = m
  s : ∀ n x, gs.S n x → (∀ m, gs m ≠ some x) ∧ ∀ m, gs.S m x → n = m
def entB (P : Program) (f : FuncId) : Bool := match P.funcs[f]? with
  | some fn => fn.name != "runtime.NumGoroutine" && fn.body.isSome
  | none => false
structure Contract (P : Program) (f : FuncId) (avs : List AV) (r : List RS) (out : List RV) : Prop where
  ent : entB P f = true
  run : ∀ (A : Nat → Prop) (gs : Gs) (g q : Nat) (w : World) (vs : Array Value), (∀ x, A x → x < w.heap.size) → inj1 gs → (∀ x, gs.In x → x < w.heap.size ∧ x ≠ g) → ((avs.any AV.isRef) = false → (∀ x, ¬ gs.In x) ∧ g = w.heap.size) → AsR w A gs g q avs vs.toList →
    Calls P f vs w fun e w' => ∃ v A' gs', e = .returned v ∧ (∀ x, A x → A' x) ∧ (∀ x, A' x → A x ∨ x < w'.heap.size ∧ (w.heap.size ≤ x ∨ gs.In x)) ∧ w.heap.size ≤ w'.heap.size ∧
      (∀ x, x < w.heap.size → x ≠ g → ¬ gs.In x → w'.heap[x]? = w.heap[x]?) ∧ (w'.os = w.os ∧ SzK w w') ∧ w'.tape = w.tape ∧ w'.output = w.output ∧ inj1 gs' ∧
      (∀ x, gs'.In x → x < w'.heap.size ∧ ¬ A' x ∧ ((avs.any AV.isRef) = true → x ≠ g) ∧ (w.heap.size ≤ x ∨ gs.In x)) ∧ ValR w' A' gs' r v ∧
      ((avs.any AV.isRef) = true → ¬ A' g ∧ ∃ c el, w'.heap[g]? = some (.cells c el (0, 0)) ∧ q + out.length ≤ c.size ∧ CsR w' A' gs' (flatR r).length out ((c.toList.drop q).take out.length))
inductive ToC (st : St) : CV → RV → Option Bid → List Bid → Prop
  | p (x : PV) : ToC st (.p x) (.p x) none []
  | nil (e : Nat) : ToC st (.p (.v (.slice none 0 0))) (.p (.l e [])) none []
  | nilo (e : Nat) (he : 0 < e) : ToC st (.p (.v (.slice none 0 0))) (.own e []) none []
  | own {b : Bid} {e n : Nat} {rows : List (List PV)} (hb : st.h b = some (.row e rows true)) (hn : rows.length = n) : ToC st (.sl b 0 n) (.own e rows) (some b) []
  | obj {b : Bid} {I : OPr} (hb : st.h b = some (.obj I 0 0)) : ToC st (.ptr b 0 0) (.obj I) (some b) []
  | tbl {b : Bid} {I : OPr} {e n : Nat} (hb : st.h b = some (.obj I e n)) (hn : Nat.blt 0 n = true) : ToC st (.sl b 0 n) (.tbl I e n) (some b) []
  | mv {b : Bid} {es : List (Int × PV)} (hb : st.h b = some (.mv es)) : ToC st (.mp b) (.mv es) (some b) []
  | mo {b : Bid} {I : OPr} (hb : st.h b = some (.obj I 0 0)) : ToC st (.mp b) (.mo I) (some b) []
  | fr {b : Bid} {e off n : Nat} {rows rows' : List (List PV)} {mu : Bool} (hb : st.h b = some (.row e rows mu)) (hr : (rows.drop off).take n = rows') : ToC st (.sl b off n) (.p (.l e rows')) none [b]
inductive ToCs (st : St) : List CV → List RV → List (Option Bid) → List Bid → Prop
  | nil : ToCs st [] [] [] []
  | cons {c : CV} {x : RV} {o : Option Bid} {b : List Bid} {cs : List CV} {xs : List RV} {os : List (Option Bid)} {bs : List Bid} (h : ToC st c x o b) (hs : ToCs st cs xs os bs) : ToCs st (c :: cs) (x :: xs) (o :: os) (b ++ bs)
inductive ToS (st : St) : TV → RS → List (Option Bid) → List Bid → Prop
  | c {c : CV} {x : RV} {o : Option Bid} {b : List Bid} (h : ToC st c x o b) : ToS st (.c c) (.c x) [o] b
  | agg {cs : List CV} {xs : List RV} {os : List (Option Bid)} {bs : List Bid} (h : ToCs st cs xs os bs) : ToS st (.agg cs) (.agg xs) os bs
inductive ToSs (st : St) : List TV → List RS → List (Option Bid) → List Bid → Prop
  | nil : ToSs st [] [] [] []
  | cons {t : TV} {x : RS} {os os' : List (Option Bid)} {bs bs' : List Bid} {ts : List TV} {xs : List RS} (h : ToS st t x os bs) (hs : ToSs st ts xs os' bs') : ToSs st (t :: ts) (x :: xs) (os ++ os') (bs ++ bs')
section
variable {E : En} {N : Nat} {cx : Cx} {st : St} {a : Act} {w : World} {P : Program}
theorem rp_of_sl {b : Bid} {off n e : Nat} {rows : List (List PV)} {mu : Bool} {v : Value} {A' : Nat → Prop} (hb : st.h b = some (.row e rows mu)) (hR : RB cx w st.h b (.row e rows mu)) (h : RC cx w st.h (.sl b off n) v) (hA : ∀ x, cx.A x → A' x) (hA' : ∀ g o, cx.ι b = some (g, o) → A' g) : RP w A' (.l e ((rows.drop off).take n)) v := by
  obtain ⟨a', cap, rfl, h1, h2, h3, h4⟩ := h _ hb
  obtain ⟨he, hre, hrb⟩ := hR
  simp only [Bk.len] at h3
  simp only [Bk.e] at h4
  have hlen : ((rows.drop off).take n).length = n := by rw [List.length_take, List.length_drop]; omega
  have hat : ∀ (i : Nat) (r : List PV), ((rows.drop off).take n)[i]? = some r → rows[off + i]? = some r := by
    intro i r hi
    rw [List.getElem?_take] at hi
    split at hi
    · rwa [List.getElem?_drop] at hi
    · cases hi
  rcases h4 with h4 | ⟨g, c, el, fz, h5, rfl, h6, h7⟩
  · have hn : n = 0 := by omega
    subst hn
    have key := RP.l (w := w) (A := A') e [] a' cap (fun _ _ => .bool false) (by simp) h2 (by simp) (.inl rfl) (by simp)
    simpa using key
  · rw [h5] at hrb
    obtain ⟨-, c', el', fz', capR, h8, h9, h10, h11, h12, h13, h14⟩ := hrb
    rw [h6] at h8
    cases h8
    have key := RP.l (w := w) (A := A') e ((rows.drop off).take n) (some ⟨g, off * e, none⟩) cap (fun i k => (c[(off + i) * e + k]?).getD undef) (by omega) h2 (fun r hr => hre r (List.mem_of_mem_drop (List.mem_of_mem_take hr))) ?_ ?_
    · rw [hlen] at key; exact key
    · refine .inr ⟨g, off * e, rfl, hA' g 0 h5, (Array.getElem?_eq_some_iff.1 h6).1, fun i r k p hi hk => ?_⟩
      obtain ⟨cv, hcv, hp⟩ := h14 (off + i) r k p (hat i r hi) hk
      rw [World.cell?, h6]
      have : off * e + i * e + k = (off + i) * e + k := by rw [Nat.add_mul]
      simp [this, hcv]
    · intro i r k p hi hk
      obtain ⟨cv, hcv, hp⟩ := h14 (off + i) r k p (hat i r hi) hk
      rw [hcv]
      exact hp.mono hA (Nat.le_refl _) (fun _ _ _ => rfl)
theorem rp_nil {A : Nat → Prop} (e : Nat) : RP w A (.l e []) (.slice none 0 0) := by
  have key := RP.l (w := w) (A := A) e [] none 0 (fun _ _ => .bool false) (by simp) (by unfold maxLen; omega) (by simp) (.inl rfl) (by simp)
  simpa using key
def goOf (cx : Cx) (o : Option Bid) : Option Nat := o.bind fun b => (cx.ι b).map (·.1)
def foOf (cx : Cx) (h : Bid → Option Bk) (o : Option Bid) (x : Nat) : Prop := ∃ b I e n, o = some b ∧ h b = some (.obj I e n) ∧ cx.F b x
theorem toC_rel (hr : Rel E N cx st a w) {c : CV} {x : RV} {o : Option Bid} {bs : List Bid} {v : Value} (h : ToC st c x o bs) (hc : RC cx w st.h c v) {A' : Nat → Prop} (hA : ∀ x, cx.A x → A' x) (hb : ∀ b ∈ bs, ∀ g q, cx.ι b = some (g, q) → A' g)
    (ho : ∀ b, o = some b → ∀ g q, cx.ι b = some (g, q) → ¬ A' g) (hof : ∀ b, o = some b → ∀ x, foOf cx st.h o x → ¬ A' x) : RVr w A' (goOf cx o) (foOf cx st.h o) x v := by
  cases h with
  | p x => exact hc.mono hA (Nat.le_refl _) (fun _ _ _ => rfl)
  | nil e => cases hc with | v _ _ => exact rp_nil e
  | nilo e he => cases hc with | v _ _ => exact ⟨he, by simp, none, 0, rfl, by simp, by unfold maxLen; omega, .inl rfl⟩
  | @own b e n rows hb' hn =>
    subst hn
    obtain ⟨a', cap, rfl, h1, h2, h3, h4⟩ := hc _ hb'
    obtain ⟨he, hre, hrb⟩ := hr.bl b _ hb'
    refine ⟨he, hre, a', cap, rfl, h1, h2, ?_⟩
    rcases h4 with h4 | ⟨g, c, el, fz, h5, rfl, h6, h7⟩
    · exact .inl h4
    · rw [h5] at hrb
      obtain ⟨-, c', el', fz', capR, h8, h9, h10, h11, h12, h13, h14⟩ := hrb
      rw [h6] at h8
      cases h8
      obtain ⟨rfl, hnA⟩ := h9 rfl
      simp only [Bk.e, Nat.zero_mul, Nat.zero_add] at h7
      exact .inr ⟨g, c, el, by simp [goOf, h5], by simp [Bk.e], ho b rfl g 0 h5, h6, h7 he, fun i r k p hi hk => let ⟨cv, hcv, hp⟩ := h14 i r k p hi hk; ⟨cv, hcv, hp.mono hA (Nat.le_refl _) (fun _ _ _ => rfl)⟩⟩
  | @fr b e off n rows rows' mu hb' hr' =>
    subst hr'
    exact rp_of_sl hb' (hr.bl b _ hb') hc hA (hb b (by simp))
  | @obj b I hb' =>
    obtain ⟨g, o, h1, h2⟩ := hc _ hb'
    obtain ⟨⟨g', h3, h4⟩, h5⟩ := hr.ob b I 0 0 hb'
    rw [h1] at h3; cases h3
    have hfo : foOf cx st.h (some b) = cx.F b := funext fun x => propext ⟨fun ⟨b2, I2, e2, n2, e1, _, hx⟩ => by cases e1; exact hx, fun hx => ⟨b, I, 0, 0, rfl, hb', hx⟩⟩
    rw [hfo]
    exact ⟨g, by simp [goOf, h1], by simpa using h2, h4.mono hA (Nat.le_refl _) (fun _ _ _ => rfl) (fun _ _ => rfl) rfl (fun x hx => hof b rfl x ⟨b, I, 0, 0, rfl, hb', hx⟩) (ho b rfl g 0 h1)⟩
  | @mo b I hb' =>
    obtain ⟨g, h1, h2⟩ := hc _ hb'
    obtain ⟨⟨g', h3, h4⟩, h5⟩ := hr.ob b I 0 0 hb'
    rw [h1] at h3; cases h3
    have hfo : foOf cx st.h (some b) = cx.F b := funext fun x => propext ⟨fun ⟨b2, I2, e2, n2, e1, _, hx⟩ => by cases e1; exact hx, fun hx => ⟨b, I, 0, 0, rfl, hb', hx⟩⟩
    rw [hfo]
    exact ⟨g, by simp [goOf, h1], h2, h4.mono hA (Nat.le_refl _) (fun _ _ _ => rfl) (fun _ _ => rfl) rfl (fun x hx => hof b rfl x ⟨b, I, 0, 0, rfl, hb', hx⟩) (ho b rfl g 0 h1)⟩
  | @tbl b I e n hb' hn =>
    obtain ⟨a', cap, rfl, h1, h2, h3, h6⟩ := hc _ hb'
    obtain ⟨⟨g', h7, h4⟩, h5⟩ := hr.ob b I e n hb'
    have hn' : 0 < n := Nat.le_of_ble_eq_true hn
    rcases h6 with h6 | ⟨g, c, el, fz, h8, rfl, h9, h10⟩
    · omega
    have hgg : g' = g := by rw [h8] at h7; exact (Prod.mk.inj (Option.some.inj h7)).1.symm
    subst hgg
    have hfo : foOf cx st.h (some b) = cx.F b := funext fun x => propext ⟨fun ⟨b2, I2, e2, n2, e1, _, hx⟩ => by cases e1; exact hx, fun hx => ⟨b, I, e, n, rfl, hb', hx⟩⟩
    rw [hfo]
    exact ⟨g', cap, c, el, fz, by simp [goOf, h8], by simp [Bk.e], hn', h1, h2, h9, fun he => by simpa [Bk.e] using h10 he, h4.mono hA (Nat.le_refl _) (fun _ _ _ => rfl) (fun _ _ => rfl) rfl (fun x hx => hof b rfl x ⟨b, I, e, n, rfl, hb', hx⟩) (ho b rfl g' 0 h8)⟩
  | @mv b es hb' =>
    obtain ⟨g, h1, h2⟩ := hc _ hb'
    obtain ⟨g', es', clk, h3, h4, h5, h6, h7⟩ := hr.bl b _ hb'
    rw [h1] at h3; cases h3
    exact ⟨g, es', clk, by simp [goOf, h1], h2, h4, ho b rfl g 0 h1, h6, fun i x hx => let ⟨v, hv, h8, h9⟩ := h7 i x hx; ⟨v, hv, h8, h9.mono hA (Nat.le_refl _) (fun _ _ _ => rfl)⟩⟩
def Bk.mine : Bk → Bool
  | .row _ _ mu => mu
  | .obj _ _ _ => true
  | .mv _ => true
  | _ => false
theorem foOf_spec (hr : Rel E N cx st a w) {o : Option Bid} {x : Nat} (h : foOf cx st.h o x) : ∃ b I e n, o = some b ∧ st.h b = some (.obj I e n) ∧ cx.F b x ∧ x < w.heap.size ∧ ¬ cx.A x ∧ (E.w0.heap.size ≤ x ∨ E.M x) ∧ ∀ b' g q, st.h b' ≠ none → cx.ι b' = some (g, q) → x ≠ g := by
  obtain ⟨b, I, e, n, h1, h2, h3⟩ := h
  obtain ⟨⟨g, h4, h5⟩, h6⟩ := hr.ob b I e n h2
  exact ⟨b, I, e, n, h1, h2, h3, (h5.2.1 x h3).1, (h5.2.1 x h3).2.1, (h6 x h3).1, (h6 x h3).2.1⟩
end
section
variable {E : En} {N : Nat} {cx : Cx} {st : St} {a : Act} {w w' : World} {P : Program} {T : Tb P}
inductive ResT (T : Tb P) (st : St) : ResultVar → TV → Prop
  | tmpc {s : Nat} {c : CV} (h : st.g s = .c c) (hk : c ≠ .any) : ResT T st (.tmp s) (.c c)
  | tmpa {s : Nat} {cs : List CV} (h : st.g s = .agg cs) : ResT T st (.tmp s) (.agg cs)
  | cellc {s t : Nat} {b : Bid} {c : CV} {te : TE} (h : st.g s = .c (.ptr b 0 0)) (hb : st.h b = some (.box [c])) (ht : lkN T.ty t = some te) (hk : te.kd.agg = false) (hk2 : c ≠ .any) : ResT T st (.cell s t) (.c c)
  | cella {s t : Nat} {b : Bid} {cs : List CV} {te : TE} (h : st.g s = .c (.ptr b 0 0)) (hb : st.h b = some (.box cs)) (ht : lkN T.ty t = some te) (hk : te.kd.agg = true) (hl : cs.length = te.size) : ResT T st (.cell s t) (.agg cs)
inductive ResTs (T : Tb P) (st : St) : List ResultVar → List TV → Prop
  | nil : ResTs T st [] []
  | cons {r : ResultVar} {t : TV} {rs : List ResultVar} {ts : List TV} (h : ResT T st r t) (hs : ResTs T st rs ts) : ResTs T st (r :: rs) (t :: ts)
def resOne (P : Program) (tmps : Array Value) : ResultVar → Sem Value
  | .tmp t => pure (tmps.getD t undef)
  | .cell a t => do loadVar t (← asAddr (tmps.getD a undef))
theorem results_run {fn : Func} {tmps : Array Value} {rs : List ResultVar} {vs : List Value} (hf : fn.results = rs.toArray) (h : (rs.mapM (resOne P tmps)).run P w = .ok vs w) :
    (results fn tmps).run P w = .ok (match vs with | [v] => v | _ => .tuple vs.toArray) w := by
  have e : (fn.results.mapM (resOne P tmps)).run P w = .ok vs.toArray w := by
    rw [hf, List.mapM_toArray, map_eq_pure_bind]
    simp only [Sem.run_bind, h, Result.andThen_ok, Sem.run_pure]
  have e2 : results fn tmps = (do let vs ← fn.results.mapM (resOne P tmps); pure (if h : vs.size = 1 then vs[0] else .tuple vs)) := rfl
  rw [e2]
  simp only [Sem.run_bind, e, Result.andThen_ok, Sem.run_pure]
  congr 1
  match vs with
  | [] => simp
  | [v] => simp
  | v :: u :: r => simp
end
def RV.bk : RV → Option Bk
  | .p _ => none
  | .own e rows => some (.row e rows true)
  | .obj I => some (.obj I 0 0)
  | .tbl I e n => some (.obj I e n)
  | .mv es => some (.mv es)
  | .mo I => some (.obj I 0 0)
def noL : PV → Bool
  | .v _ => true
  | .l _ _ => false
  | .o _ => true
  | .f _ _ => false
inductive ToPs (st : St) : List CV → List PV → List Bid → Prop
  | nil : ToPs st [] [] []
  | cons {c : CV} {x : PV} {b : List Bid} {cs : List CV} {xs : List PV} {bs : List Bid} (h : ToC st c (.p x) none b) (hs : ToPs st cs xs bs) : ToPs st (c :: cs) (x :: xs) (b ++ bs)
inductive ToA (st : St) : TV → AV → List Bid → Prop
  | c {c : CV} {x : PV} {b : List Bid} (h : ToC st c (.p x) none b) : ToA st (.c c) (.c x) b
  | agg {cs : List CV} {xs : List PV} {bs : List Bid} (h : ToPs st cs xs bs) : ToA st (.agg cs) (.agg xs) bs
  | ep (row : List PV) : ToA st (.c (.ep row 0)) (.ep row) []
inductive ToAs (st : St) : List TV → List AV → List Bid → Prop
  | nil : ToAs st [] [] []
  | cons {t : TV} {x : AV} {bs bs' : List Bid} {ts : List TV} {xs : List AV} (h : ToA st t x bs) (hs : ToAs st ts xs bs') : ToAs st (t :: ts) (x :: xs) (bs ++ bs')
section
variable {E : En} {N : Nat} {cx : Cx} {st : St} {a : Act} {w w' : World} {P : Program} {T : Tb P} {ops : Array Oper} {d : Nat} {ty : Nat} {pos : String} {af : Array Edge} {gd : Option (Nat × Bool)} {h : Bid → Option Bk}
end
section
variable {E : En} {N : Nat} {cx : Cx} {st : St} {a : Act} {w w' : World} {P : Program} {T : Tb P} {ops : Array Oper} {o : Oper} {d : Nat} {ty : Nat} {pos : String} {af : Array Edge} {gd : Option (Nat × Bool)}
end
section
variable {E : En} {N : Nat} {P : Program} {T : Tb P} {ops : Array Oper} {o : Oper} {st : St} {d : Nat} {ty : Nat} {pos : String} {af : Array Edge} {gd : Option (Nat × Bool)} {Q : Exit → St → Prop}
theorem opL_move_c {x : Operand} {y : CV} (hx : st.ev x = .c y := by exact rfl) (hc : okC x = true := by exact rfl) : OpL E N P ops ⟨some d, .move x, ty, pos, af, gd⟩ st ⟨[], []⟩ ⟨.c y, []⟩ := opL_move hc hx
variable {r : List Oper} {acc : List (Fp × Ef)} {K : List (Fp × Ef) → St → Prop} {fr : List (Nat × TV)} {H : List (Bid × Option Bk)} {op : Op}
end
section
variable {E : En} {N : Nat} {P : Program} {T : Tb P} {st : St} {Q : Exit → St → Prop} {cx : Cx} {a : Act} {w : World} {fn : Func}
def Nm (st st' : St) : Prop := ∃ ks σ, okS σ = true ∧ st.norm ks σ = st'
theorem Nm.mk (ks : List Nat) (σ : List (Bid × Bid)) {st' : St} (h1 : okS σ = true) (h : st.norm ks σ = st') : Nm st st' := ⟨ks, σ, h1, h⟩
section
variable {ops : Array Oper} {d : Nat} {ty : Nat} {pos : String} {af : Array Edge} {gd : Option (Nat × Bool)} {f : FuncId} {xs : Array Operand} {tys : Array TypeId} {dst : Option Nat} {avs : List AV} {bs : List Bid}
end
end
section
variable {E : En} {N : Nat} {P : Program} {T : Tb P} {st : St} {Q : Exit → St → Prop} {cx : Cx} {a : Act} {w w' : World} {fn : Func}
end
section
variable {E : En} {N : Nat} {cx : Cx} {st : St} {a : Act} {w w' : World} {P : Program} {T : Tb P} {ops : Array Oper} {o : Oper} {d : Nat} {ty : Nat} {pos : String} {af : Array Edge} {gd : Option (Nat × Bool)}
def Mv (cx : Cx) (h : Bid → Option Bk) (dl : List Bid) (x : Nat) : Prop := ∃ b ∈ dl, (∃ q, cx.ι b = some (x, q)) ∨ foOf cx h (some b) x
theorem Mv.ι (hr : Rel E N cx st a w) {dl : List Bid} (hdl : ∀ b ∈ dl, ∃ bk, st.h b = some bk ∧ bk.mine = true) {b : Bid} {g q : Nat} (hb : st.h b ≠ none) (hn : b ∉ dl) (hi : cx.ι b = some (g, q)) : ¬ Mv cx st.h dl g := by
  rintro ⟨b2, hb2, ⟨q2, hq⟩ | h⟩
  · obtain ⟨bk, h1, h2⟩ := hdl b2 hb2
    refine hr.inj b b2 g q g q2 hb (by rw [h1]; simp) hi hq ?_ rfl
    rintro rfl; exact hn hb2
  · obtain ⟨b', I, e, n, h1, h2, h3, h4, h5, h6, h7⟩ := foOf_spec hr h
    exact h7 b g q hb hi rfl
theorem Mv.F (hr : Rel E N cx st a w) {dl : List Bid} (hdl : ∀ b ∈ dl, ∃ bk, st.h b = some bk ∧ bk.mine = true) {b : Bid} {I : OPr} {e n x : Nat} (hb : st.h b = some (.obj I e n)) (hn : b ∉ dl) (hx : cx.F b x) : ¬ Mv cx st.h dl x := by
  obtain ⟨_, h3⟩ := hr.ob b I e n hb
  rintro ⟨b2, hb2, ⟨q2, hq⟩ | h⟩
  · obtain ⟨bk, h1, h2⟩ := hdl b2 hb2
    exact (h3 x hx).2.1 b2 x q2 (by rw [h1]; simp) hq rfl
  · obtain ⟨b', I', e', n', h1, h2, h4, _⟩ := foOf_spec hr h
    cases h1
    have := (h3 x hx).2.2 b2 I' e' n' h2 h4
    subst this
    exact hn hb2
end
section
variable {E : En} {N : Nat} {P : Program} {st : St} {ops : Array Oper} {d : Nat} {ty : Nat} {pos : String} {af : Array Edge} {gd : Option (Nat × Bool)}
end
section
variable {w w' : World} {P : Program} {A : Nat → Prop} {gs : Gs} {g q : Nat}
end
section
variable {E : En} {N : Nat} {P : Program} {T : Tb P} {st : St} {ops : Array Oper} {d : Nat} {ty : Nat} {pos : String} {af : Array Edge} {gd : Option (Nat × Bool)}
end
section
variable {E : En} {N : Nat} {P : Program} {T : Tb P} {ops : Array Oper} {o : Oper} {st : St} {d : Nat} {ty : Nat} {pos : String} {af : Array Edge} {gd : Option (Nat × Bool)} {cx : Cx} {a : Act} {w w' : World}
theorem fill_size {pl : Nat → Option (Nat × Nat)} : ∀ {vs : List (Nat × Value)} {cells cells' : Array Value}, Instr.fill pl cells vs = some cells' → cells'.size = cells.size
  | [], cells, cells', h => by cases h; rfl
  | (i, v) :: vs, cells, cells', h => by
    unfold Instr.fill at h
    split at h
    · cases h
    · split at h
      · cases h
      · rw [fill_size h, ← Array.foldl_toList, Array.toList_zipIdx]
        exact (Great.foldl_set _ _ _ _).1
end
section
variable {E : En} {N : Nat} {P : Program} {T : Tb P} {ops : Array Oper} {o : Oper} {st : St} {r : List Oper} {acc : List (Fp × Ef)} {K : List (Fp × Ef) → St → Prop} {d : Nat} {ty : Nat} {pos : String} {af : Array Edge} {gd : Option (Nat × Bool)} {op : Op} {f : Fp} {t : TV} {fr : List (Nat × TV)} {H : List (Bid × Option Bk)}
end
def Sub (st st' : St) : Prop := ∀ (E : En) (N : Nat) (cx : Cx) (a : Act) (w : World), Rel E N cx st a w → ∃ cx', Rel E N cx' st' a w
def lp {σ : Type} (step : (σ → Prop) → σ → Prop) (s : σ) : Prop := ∀ X : σ → Prop, (∀ s, step X s → X s) → X s
section
variable {E : En} {N : Nat} {P : Program} {T : Tb P} {Q : Exit → St → Prop} {st st' st2 : St}
theorem Sub.refl (st : St) : Sub st st := fun _ _ cx _ _ h => ⟨cx, h⟩
theorem Sub.trans (h : Sub st st') (h2 : Sub st' st2) : Sub st st2 := fun E N cx a w hr => let ⟨cx', hr'⟩ := h E N cx a w hr; h2 E N cx' a w hr'
end
theorem h_cons (b b' : Bid) (x : Option Bk) (fr : List (Nat × TV)) (H : List (Bid × Option Bk)) : (⟨fr, (b, x) :: H⟩ : St).h b' = if b' = b then x else (⟨fr, H⟩ : St).h b' := by
  show (lkB ((b, x) :: H) b').getD none = _
  simp only [lkB]
  by_cases h : b' = b
  · subst h; rw [beqB_iff.2 rfl, if_pos rfl]; rfl
  · have : beqB b b' = false := by
      cases hb : beqB b b' with
      | false => rfl
      | true => exact absurd (beqB_iff.1 hb).symm h
    rw [this, if_neg h]; rfl
section
variable {E : En} {N : Nat} {P : Program} {T : Tb P} {Q : Exit → St → Prop} {st st' st2 : St} {cx : Cx} {a : Act} {w : World} {fr : List (Nat × TV)} {H : List (Bid × Option Bk)}
inductive Ct (st : St) : CV → CV → Prop
  | k (c : CV) : Ct st c c
  | any (c : CV) : Ct st c .any
  | nil (e : Nat) : Ct st (.p (.v (.slice none 0 0))) (.p (.l e []))
  | nilo {b : Bid} {bk : Bk} (hb : st.h b = some bk) : Ct st (.p (.v (.slice none 0 0))) (.sl b 0 0)
  | n {b : Bid} {off n n' : Nat} (h : n = n') : Ct st (.sl b off n) (.sl b off n')
  | fr {b : Bid} {e off n : Nat} {rows rows' : List (List PV)} (hb : st.h b = some (.row e rows false)) (hr : (rows.drop off).take n = rows') : Ct st (.sl b off n) (.p (.l e rows'))
theorem ct_rc {c c' : CV} {v : Value} (hr : Rel E N cx st a w) (h : Ct st c c') (hc : RC cx w st.h c v) : RC cx w st.h c' v := by
  cases h with
  | k => exact hc
  | any => trivial
  | nil e => cases hc with | v _ _ => exact rp_nil e
  | n h => subst h; exact hc
  | nilo hb =>
    cases hc with
    | v _ _ =>
      intro bk hbk
      exact ⟨none, 0, rfl, Nat.le_refl _, Nat.zero_le _, Nat.zero_le _, .inl rfl⟩
  | @fr b e off n rows rows' hb hr' =>
    have hA : ∀ b' ∈ [b], ∀ g q, cx.ι b' = some (g, q) → cx.A g := by
      intro b' hb' g q hg
      rw [List.mem_singleton.1 hb'] at hg
      obtain ⟨_, _, h3⟩ := hr.bl b _ hb
      rw [hg] at h3
      obtain ⟨_, c, el, fz, capR, _, _, h6, _⟩ := h3
      exact h6 rfl
    exact toC_rel (x := .p (.l e rows')) (o := none) hr (.fr hb hr') hc (fun _ h => h) hA (fun b h => by cases h) (fun b h => by cases h)
inductive Cts (st : St) : List CV → List CV → Prop
  | nil : Cts st [] []
  | cons {c c' : CV} {cs cs' : List CV} (h : Ct st c c') (hs : Cts st cs cs') : Cts st (c :: cs) (c' :: cs')
theorem Cts.k (cs : List CV) : Cts st cs cs := by
  induction cs with
  | nil => exact .nil
  | cons c cs ih => exact .cons (.k c) ih
theorem Cts.at {cs cs' : List CV} (h : Cts st cs cs') : cs'.length = cs.length ∧ ∀ (k : Nat) (c' : CV), cs'[k]? = some c' → ∃ c, cs[k]? = some c ∧ Ct st c c' := by
  induction h with
  | nil => exact ⟨rfl, fun k c' h => by simp at h⟩
  | cons h hs ih =>
    refine ⟨by simp [ih.1], fun k c' hk => ?_⟩
    cases k with
    | zero => rw [List.getElem?_cons_zero] at hk; cases hk; exact ⟨_, rfl, h⟩
    | succ k => rw [List.getElem?_cons_succ] at hk; obtain ⟨c, h1, h2⟩ := ih.2 k c' hk; exact ⟨c, by rw [List.getElem?_cons_succ]; exact h1, h2⟩
theorem Sub.cells (b : Bid) {cs cs' : List CV} {fm : Option Frm} (hb : (⟨fr, H⟩ : St).h b = some (.box cs fm) := by exact rfl) (hc : Cts ⟨fr, H⟩ cs cs') : Sub ⟨fr, H⟩ ⟨fr, (b, some (.box cs' fm)) :: H⟩ := by
  intro E N cx a w hr
  have hh := h_cons b (x := some (.box cs' fm)) (fr := fr) (H := H)
  obtain ⟨hl, hat⟩ := hc.at
  have hcmp : ∀ b', Cmp cx w (⟨fr, H⟩ : St).h cx w (⟨fr, (b, some (.box cs' fm)) :: H⟩ : St).h b' := by
    intro b' bk' hb'
    rw [hh] at hb'
    by_cases h : b' = b
    · rw [if_pos h] at hb'
      cases hb'
      subst h
      exact ⟨_, hb, rfl, Nat.le_refl _, rfl, fun g o c el fz _ h => ⟨c, el, fz, h, fun _ => rfl⟩⟩
    · rw [if_neg h] at hb'
      exact ⟨bk', hb', rfl, Nat.le_refl _, rfl, fun g o c el fz _ h => ⟨c, el, fz, h, fun _ => rfl⟩⟩
  have hk : Keeps cx.A w w := Keeps.refl _ _
  have hlive : ∀ b', (⟨fr, (b, some (.box cs' fm)) :: H⟩ : St).h b' ≠ none → (⟨fr, H⟩ : St).h b' ≠ none := by
    intro b' h1
    rw [hh] at h1
    by_cases h : b' = b
    · rw [h, hb]; simp
    · rwa [if_neg h] at h1
  refine ⟨cx, hr.defers, hr.size, fun s' => ?_, fun b' bk hb' => ?_, fun b1 b2 g o g' o' h1 h2 h3 h4 hne => ?_, fun b1 g o h1 h2 => ?_, hr.A, hr.A0, hr.kept, hr.sz, hr.os, hr.tape, hr.output, hr.hN, hr.pin, hr.cz, hr.ob.keep hr.inj (fun _ h => h) hk (Fr4.see hh hb rfl rfl fun _ h => .inl h)⟩
  · exact RT.tr (cx := cx) (fun _ h => h) hk (fun b' _ => hcmp b') (hr.fr s')
  · rw [hh] at hb'
    by_cases h : b' = b
    · rw [if_pos h] at hb'
      cases hb'
      subst h
      obtain ⟨g, o, c, el, h1, h2, h3, h4, h5, hfm⟩ := hr.bl b' _ hb
      refine ⟨g, o, c, el, h1, h2, h3, by rw [hl]; exact h4, fun k x hx => ?_, by rw [hl]; exact hfm⟩
      obtain ⟨x0, h6, h7⟩ := hat k x hx
      obtain ⟨cv, h8, h9, h10⟩ := h5 k x0 h6
      exact ⟨cv, h8, h9, RC.tr (cx := cx) (fun _ h => h) hk (fun b' _ => hcmp b') (ct_rc hr h7 h10)⟩
    · rw [if_neg h] at hb'
      exact RB.tr (cx := cx) (fun _ h => h) hk (fun b2 _ => hcmp b2) rfl (fun g o _ => ⟨rfl, fun h => h⟩) (hr.bl b' bk hb')
  · exact hr.inj b1 b2 g o g' o' (hlive b1 h1) (hlive b2 h2) h3 h4 hne
  · exact hr.own b1 g o (hlive b1 h1) h2
end
def eqV : Value → Value → Bool
  | .int _ a, .int _ b => a == b
  | .bool a, .bool b => a == b
  | .string a, .string b => a.toList == b.toList
  | _, _ => false
def eqVs : List Value → List Value → Bool
  | [], [] => true
  | a :: l, b :: m => eqV a b && eqVs l m
  | _, _ => false
section
variable {α : Type} {f : α → List PV} {L L' : List α} {E : En} {N : Nat} {P : Program} {T : Tb P} {ops : Array Oper} {o : Oper} {st : St} {d : Nat} {ty : Nat} {pos : String} {af : Array Edge} {gd : Option (Nat × Bool)} {cx : Cx} {a : Act} {w w' : World}
theorem get_set {n : Nat} {x y : α} (h : L[n]? = some y) : (L.set n x)[n]? = some x := by
  rw [List.getElem?_set, if_pos rfl, if_pos (List.getElem?_eq_some_iff.1 h).1]
end
inductive NoLc : RV → Prop
  | p {x : PV} (h : noL x = true) : NoLc (.p x)
  | o {e : Nat} {rows : List (List PV)} (h : ∀ r ∈ rows, ∀ p ∈ r, noL p = true) : NoLc (.own e rows)
inductive NoLl : List RV → Prop
  | nil : NoLl []
  | cons {x : RV} {l : List RV} (h : NoLc x) (hs : NoLl l) : NoLl (x :: l)
section
variable {P : Program} {T : Tb P} {st : St} {k0 : Nat}
theorem ResT.p {x : PV} (h : st.g k0 = .c (.p x)) : ResT T st (.tmp k0) (.c (.p x)) := .tmpc h (by simp)
theorem ResT.s {b : Bid} {off n : Nat} (h : st.g k0 = .c (.sl b off n)) : ResT T st (.tmp k0) (.c (.sl b off n)) := .tmpc h (by simp)
end
section
variable {α : Type} {f : α → List PV} {L L' : List α} {E : En} {N : Nat} {P : Program} {T : Tb P} {ops : Array Oper} {o : Oper} {st : St} {d : Nat} {ty : Nat} {pos : String} {af : Array Edge} {gd : Option (Nat × Bool)} {cx : Cx} {a : Act} {w w' : World} {fr : List (Nat × TV)} {H : List (Bid × Option Bk)}
def flatAt (P : Program) : Nat → List Field → List Value → List Value → Bool
  | _, [], [], [] => true
  | i, f :: fs, x :: xs, y :: ys => f.name != "_" && Nat.beq f.offset i && (match P.underlying f.type, x, y with
    | some (.int _), .int k _, .int k' _ => decide (k = k')
    | some .bool, .bool _, .bool _ => true
    | some .string, .string _, .string _ => true
    | _, _, _ => false) && flatAt P (i + 1) fs xs ys
  | _, _, _, _ => false
def flatS (P : Program) (t : TypeId) (xs ys : List Value) : Bool := match P.underlying t with
  | some (.struct fs) => flatAt P 0 fs.toList xs ys && !P.stoodInHeld t && !P.eqGuardType P.depth t
  | _ => false
def plainD : TypeDesc → Bool
  | .int _ | .bool | .string => true
  | _ => false
theorem run_part1 {e : TypeId} {dsc : TypeDesc} (hu : P.underlying e = some dsc) (ha : plainD dsc = true) {xs : Array Value} {i : Nat} {v : Value} (hx : xs[i]? = some v) : (part e xs i).run P w = .ok v w := by
  cases dsc <;> simp [plainD] at ha <;> simp [part, isAgg, run_underlying hu, hx]
theorem run_eqFields {xs ys : Array Value} : ∀ (fs : List Field) (i : Nat) (us vs : List Value), flatAt P i fs us vs = true → xs.toList.drop i = us → ys.toList.drop i = vs → (Op.eqFields 9999 xs ys fs).run P w = .ok (eqVs us vs) w := by
  intro fs
  induction fs with
  | nil =>
    intro i us vs h h1 h2
    cases us <;> cases vs <;> simp [flatAt] at h
    simp [Op.eqFields, eqVs, Sem.run_pure]
  | cons f fs ih =>
    intro i us vs h h1 h2
    cases us with
    | nil => simp [flatAt] at h
    | cons u us =>
      cases vs with
      | nil => simp [flatAt] at h
      | cons v vs =>
        simp only [flatAt, Bool.and_eq_true] at h
        obtain ⟨⟨⟨hn, hi⟩, hk⟩, hr⟩ := h
        have hi := Nat.eq_of_beq_eq_true hi
        have hu : xs[i]? = some u := by have := congrArg (·[0]?) h1; simpa [List.getElem?_drop] using this
        have hv : ys[i]? = some v := by have := congrArg (·[0]?) h2; simpa [List.getElem?_drop] using this
        have h1' : xs.toList.drop (i + 1) = us := by rw [← List.drop_drop, h1]; rfl
        have h2' : ys.toList.drop (i + 1) = vs := by rw [← List.drop_drop, h2]; rfl
        have hih := ih (i + 1) us vs hr h1' h2'
        have hne : f.name ≠ "_" := by simpa using hn
        have key : ∃ dsc, P.underlying f.type = some dsc ∧ plainD dsc = true ∧ (Op.equalIn 9999 f.type u v).run P w = .ok (eqV u v) w := by
          split at hk
          · rename_i k0 k a k' b hd
            have := of_decide_eq_true hk; subst this
            exact ⟨_, hd, rfl, run_equalIn_int w 9998 _ _ _ _ _ hd⟩
          · rename_i a b hd
            exact ⟨_, hd, rfl, run_equalIn_bool' w 9998 _ _ _ hd⟩
          · rename_i a b hd
            exact ⟨_, hd, rfl, run_equalIn_string w 9998 _ _ _ hd⟩
          · cases hk
        obtain ⟨dsc, hd, ha, he⟩ := key
        simp only [Op.eqFields, if_pos hne, Sem.run_bind, hi, run_part1 hd ha hu, run_part1 hd ha hv, Result.andThen_ok, he, eqVs]
        cases heq : eqV u v
        · simp [Sem.run_pure]
        · simp [hih]
theorem run_eqS {t : TypeId} {us vs : List Value} (h : flatS P t us vs = true) : (Op.equalIn 10000 t (.agg us.toArray) (.agg vs.toArray)).run P w = .ok (eqVs us vs) w ∧ P.eqGuardType P.depth t = false := by
  unfold flatS at h
  split at h
  · rename_i fs hu
    simp only [Bool.and_eq_true, Bool.not_eq_true'] at h
    obtain ⟨⟨h1, h2⟩, h3⟩ := h
    have hfo : P.fieldsOf t = fs := by unfold Program.fieldsOf; rw [hu]
    refine ⟨?_, h3⟩
    rw [run_equalIn_struct w 9999 t _ _ (by rw [hfo]; exact hu) h2, hfo]
    exact run_eqFields fs.toList 0 us vs h1 rfl rfl
  · cases h
end
inductive Cr (st : St) : CV → PV → Prop
  | k (x : PV) : Cr st (.p x) x
  | nil (e : Nat) : Cr st (.p (.v (.slice none 0 0))) (.l e [])
  | fr {b : Bid} {e off n : Nat} {rows rows' : List (List PV)} (hb : st.h b = some (.row e rows false)) (hr : (rows.drop off).take n = rows') : Cr st (.sl b off n) (.l e rows')
inductive Crs (st : St) : List CV → List PV → Prop
  | nil : Crs st [] []
  | cons {c : CV} {x : PV} {cs : List CV} {xs : List PV} (h : Cr st c x) (hs : Crs st cs xs) : Crs st (c :: cs) (x :: xs)
section
variable {E : En} {N : Nat} {P : Program} {T : Tb P} {ops : Array Oper} {o : Oper} {st : St} {d : Nat} {ty : Nat} {pos : String} {af : Array Edge} {gd : Option (Nat × Bool)} {cx : Cx} {a : Act} {w w' : World}
end
section
variable {E : En} {N : Nat} {P : Program} {Q : Exit → St → Prop} {st : St}
end
section
variable {P : Program} {w w' : World}
end
def GM {R : Type} (G G' : (R → Prop) → Prop) : Prop := ∀ Post : R → Prop, G Post → ∃ r, G' (fun x => r = x) ∧ Post r
section
variable {R α σ : Type}
theorem GM.ret (e : R) : GM (fun Q => Q e) (fun Q => Q e) := fun Post h => ⟨e, rfl, h⟩
theorem GM.and {p : Prop} {G G' : (R → Prop) → Prop} (h : GM G G') : GM (fun Q => p ∧ G Q) (fun Q => p ∧ G' Q) := fun Post ⟨hp, hg⟩ => let ⟨r, h1, h2⟩ := h Post hg; ⟨r, ⟨hp, h1⟩, h2⟩
theorem GM.ex {p : α → Prop} {G G' : α → (R → Prop) → Prop} (h : ∀ a, GM (G a) (G' a)) : GM (fun Q => ∃ a, p a ∧ G a Q) (fun Q => ∃ a, p a ∧ G' a Q) := fun Post ⟨a, hp, hg⟩ => let ⟨r, h1, h2⟩ := h a Post hg; ⟨r, ⟨a, hp, h1⟩, h2⟩
theorem GM.cond {c : Bool} {A A' B B' : (R → Prop) → Prop} (h1 : GM A A') (h2 : GM B B') : GM (fun Q => (c = true → A Q) ∧ (c = false → B Q)) (fun Q => (c = true → A' Q) ∧ (c = false → B' Q)) := fun Post h => by
  cases c with
  | true => obtain ⟨r, h3, h4⟩ := h1 Post (h.1 rfl); exact ⟨r, ⟨fun _ => h3, (fun h => by cases h)⟩, h4⟩
  | false => obtain ⟨r, h3, h4⟩ := h2 Post (h.2 rfl); exact ⟨r, ⟨(fun h => by cases h), fun _ => h3⟩, h4⟩
theorem GM.loop {step step' : (σ → Prop) → σ → (R → Prop) → Prop} {s0 : σ} (hm : ∀ (X Y : σ → Prop) (Q : R → Prop) (s : σ), (∀ s, X s → Y s) → step' X s Q → step' Y s Q)
    (h : ∀ K K' : σ → (R → Prop) → Prop, (∀ s, GM (K s) (K' s)) → ∀ s, GM (fun Q => step (fun s => K s Q) s Q) (fun Q => step' (fun s => K' s Q) s Q)) :
    GM (fun Q => lp (fun (X : σ → Prop) (s : σ) => step X s Q) s0) (fun Q => lp (fun (X : σ → Prop) (s : σ) => step' X s Q) s0) := by
  intro Post hl
  have hl : lp (fun (X : σ → Prop) (s : σ) => step X s Post) s0 := hl
  refine hl (fun (s : σ) => ∃ r, lp (fun (X : σ → Prop) (s : σ) => step' X s (fun x => r = x)) s ∧ Post r) fun s hs => ?_
  obtain ⟨r, h1, h2⟩ := h (fun s Q => ∃ r, lp (fun (X : σ → Prop) (s : σ) => step' X s (fun x => r = x)) s ∧ Q r) (fun s Q => lp (fun (X : σ → Prop) (s : σ) => step' X s Q) s) (fun s P ⟨r, h1, h2⟩ => ⟨r, h1, h2⟩) s Post hs
  exact ⟨r, fun X hX => hX s (hm _ _ _ s (fun s' h' => h' X hX) h1), h2⟩
end
section
variable {E : En} {N : Nat} {P : Program} {T : Tb P} {ops : Array Oper} {o : Oper} {st : St} {r : List Oper} {acc : List (Fp × Ef)} {K : List (Fp × Ef) → St → Prop} {d : Nat} {ty : Nat} {pos : String} {af : Array Edge} {op : Op} {f : Fp} {t : TV} {fr : List (Nat × TV)} {H : List (Bid × Option Bk)} {Q : Exit → St → Prop}
theorem mv {k : Nat} {y : CV} (hx : (⟨fr, H⟩ : St).ev (.tmp k) = .c y := by exact rfl) (h : Run E N P ops r ((⟨[], []⟩, ⟨.c y, []⟩) :: acc) ⟨(d, .c y) :: fr, H⟩ K) : Run E N P ops (⟨some d, .move (.tmp k), ty, pos, af, none⟩ :: r) acc ⟨fr, H⟩ K := run_op0 rfl (opL_move_c hx rfl) h
theorem rt {L : St → Prop} (h : L st) (h1 : chkT acc.reverse = true := by kernel_rfl) {st0 : St} (h2 : freshA st0 acc = true := by kernel_rfl) : Run E N P ops [] acc st fun acc st' => chkT acc.reverse = true ∧ freshA st0 acc = true ∧ L st' := run_nil ⟨h1, h2, h⟩
theorem dl (hm : P.follows .mixedOrders = true) {x : List Oper} {id : Nat} (h : ∀ L : St → Prop, (∀ st, Q .normal st → L st) → Run E N P x.toArray x [] st fun acc st' => chkD x acc.reverse = true ∧ freshA st acc = true ∧ L st') (hS : schS N x = true := by kernel_rfl) : AW E N P (.region id x.toArray true) Q st := aw_draw hm hS (h _ fun _ h => h)
end
section
variable {E : En} {N : Nat} {P : Program} {T : Tb P} {ops : Array Oper} {o : Oper} {st : St} {d : Nat} {ty : Nat} {pos : String} {af : Array Edge} {gd : Option (Nat × Bool)} {cx : Cx} {a : Act} {w w' : World} {v : Value}
end
section
variable {E : En} {N : Nat} {P : Program} {T : Tb P} {ops : Array Oper} {o : Oper} {st : St} {d : Nat} {ty : Nat} {pos : String} {af : Array Edge} {gd : Option (Nat × Bool)} {cx : Cx} {a : Act} {w w' : World} {v : Value}
end
end Go.Proofs.YteomkfapkfogcaaGreat
namespace Go.Proofs.YteomkfapkfogcaaGreat
noncomputable section
inductive Tr (α : Type) where
  | e
  | n (l : Tr α) (v : Option α) (r : Tr α)
def Tr.get {α : Type} (t : Tr α) : Nat → Option α :=
  Tr.rec (motive := fun _ => Nat → Option α) (fun _ => none) (fun _ v _ gl gr i => Nat.rec (motive := fun _ => Option α) v (fun i _ => Bool.rec (motive := fun _ => Option α) (gr (Nat.div i 2)) (gl (Nat.div i 2)) (Nat.beq (Nat.mod i 2) 0)) i) t
def Tr.nl {α : Type} (v : Option α) (r t : Tr α) : Tr α := Tr.rec (motive := fun _ => Tr α) (.n .e v r) (fun a b c _ _ => .n (.n a b c) v r) t
def Tr.nr {α : Type} (l : Tr α) (v : Option α) (t : Tr α) : Tr α := Tr.rec (motive := fun _ => Tr α) (.n l v .e) (fun a b c _ _ => .n l v (.n a b c)) t
def Tr.setF {α : Type} (x : Option α) (f : Nat) : Tr α → Nat → Tr α :=
  Nat.rec (motive := fun _ => Tr α → Nat → Tr α) (fun t _ => t) (fun _ ih t i => Tr.rec (motive := fun _ => Tr α)
    (Nat.rec (motive := fun _ => Tr α) (.n .e x .e) (fun i _ => Bool.rec (motive := fun _ => Tr α) (Tr.nr .e none (ih .e (Nat.div i 2))) (Tr.nl none .e (ih .e (Nat.div i 2))) (Nat.beq (Nat.mod i 2) 0)) i)
    (fun l v r _ _ => Nat.rec (motive := fun _ => Tr α) (.n l x r) (fun i _ => Bool.rec (motive := fun _ => Tr α) (Tr.nr l v (ih r (Nat.div i 2))) (Tr.nl v r (ih l (Nat.div i 2))) (Nat.beq (Nat.mod i 2) 0)) i) t) f
def Tr.set {α : Type} (t : Tr α) (i : Nat) (x : Option α) : Tr α := Tr.setF x (Nat.succ i) t i
inductive CX where
  | u
  | v (x : Value)
  | x (k : Nat)
  | p (b k : Nat)
  | s (b k n e m : Nat) (x : Bool)
  | m (b : Nat)
  | f (fid : Nat) (caps : List (Nat × Nat))
inductive TX where
  | c (x : CX)
  | a (xs : List CX)
  | t (xs : List TX)
  | no
inductive BX where
  | cells (xs : List CX)
  | map (es : List (Int × CX))
structure SX where
  h : Tr BX
  c : Nat
  lg : List Nat
structure GX where
  loc : List (Nat × TX)
  out : List (Nat × TX)
def lkS (l : List (Nat × TX)) (i : Nat) : Option TX :=
  List.rec (motive := fun _ => Option TX) none (fun x _ ih => Bool.rec (motive := fun _ => Option TX) ih (some x.2) (Nat.beq x.1 i)) l
def setS (i : Nat) (t : TX) (l : List (Nat × TX)) : List (Nat × TX) :=
  List.rec (motive := fun _ => List (Nat × TX)) [(i, t)] (fun x l ih => Bool.rec (motive := fun _ => List (Nat × TX)) (x :: ih) ((i, t) :: l) (Nat.beq x.1 i)) l
def GX.get (g : GX) (i : Nat) : Option TX := Option.rec (motive := fun _ => Option TX) (lkS g.out i) (fun t => some t) (lkS g.loc i)
def GX.put (g : GX) (i : Nat) (t : TX) : GX := ⟨(i, t) :: g.loc, g.out⟩
def mrgS (esc : Nat) (l o : List (Nat × TX)) : List (Nat × TX) :=
  List.rec (motive := fun _ => List (Nat × TX)) o (fun x _ ih => Nat.rec (motive := fun _ => List (Nat × TX)) ih (fun _ _ => setS x.1 x.2 ih) (Nat.mod (Nat.div esc (Nat.pow 2 x.1)) 2)) l
def GX.fin (esc : Nat) (g : GX) : GX := ⟨[], mrgS esc g.loc g.out⟩
inductive RX where
  | l (bs : List Nat)
  | all (c : Nat)
inductive KX where
  | int (k : IntKind) | bool | string | slice (e : Nat) | ptr (e : Nat) | array (n e : Nat) | struct (fs : List (Nat × Nat)) | map (k e : Nat) | float (k : FloatKind) | complex (k : FloatKind) | func | other
def KX.agg : KX → Bool
  | .array _ _ => true
  | .struct _ => true
  | _ => false
structure YX where
  kd : KX
  size : Nat
  zero : List CX
def gd {α : Type} (b : Bool) (x : Option α) : Option α := Bool.rec (motive := fun _ => Option α) none x b
def nth {α : Type} (l : List α) : Nat → Option α :=
  List.rec (motive := fun _ => Nat → Option α) (fun _ => none) (fun a _ ih k => Nat.rec (motive := fun _ => Option α) (some a) (fun k _ => ih k) k) l
def takX {α : Type} (l : List α) : Nat → Option (List α) :=
  List.rec (motive := fun _ => Nat → Option (List α)) (fun n => Nat.rec (motive := fun _ => Option (List α)) (some []) (fun _ _ => none) n)
    (fun a _ ih n => Nat.rec (motive := fun _ => Option (List α)) (some []) (fun n _ => Option.rec (motive := fun _ => Option (List α)) none (fun r => some (a :: r)) (ih n)) n) l
def cutX {α : Type} (l : List α) : Nat → Nat → Option (List α) :=
  List.rec (motive := fun _ => Nat → Nat → Option (List α)) (fun k n => Nat.rec (motive := fun _ => Option (List α)) (takX [] n) (fun _ _ => none) k)
    (fun a l ih k n => Nat.rec (motive := fun _ => Option (List α)) (takX (a :: l) n) (fun k _ => ih k n) k) l
def ovrX {α : Type} (l : List α) : List α → Option (List α) :=
  List.rec (motive := fun _ => List α → Option (List α)) (fun vs => List.rec (motive := fun _ => Option (List α)) (some []) (fun _ _ _ => none) vs)
    (fun a l ih vs => List.rec (motive := fun _ => Option (List α)) (some (a :: l)) (fun v vs _ => Option.rec (motive := fun _ => Option (List α)) none (fun r => some (v :: r)) (ih vs)) vs) l
def putX {α : Type} (l : List α) : Nat → List α → Option (List α) :=
  List.rec (motive := fun _ => Nat → List α → Option (List α)) (fun k vs => Nat.rec (motive := fun _ => Option (List α)) (ovrX [] vs) (fun _ _ => none) k)
    (fun a l ih k vs => Nat.rec (motive := fun _ => Option (List α)) (ovrX (a :: l) vs) (fun k _ => Option.rec (motive := fun _ => Option (List α)) none (fun r => some (a :: r)) (ih k vs)) k) l
def lenX {α : Type} (l : List α) : Nat := List.rec (motive := fun _ => Nat) 0 (fun _ _ ih => Nat.succ ih) l
def appX {α : Type} (l m : List α) : List α := List.rec (motive := fun _ => List α) m (fun a _ ih => a :: ih) l
def repX {α : Type} (z : List α) (n : Nat) : List α := Nat.rec (motive := fun _ => List α) [] (fun _ ih => appX z ih) n
def fN {α : Type} (n : Nat) (k : Nat → α) : α := Nat.rec (motive := fun _ => α) (k 0) (fun n _ => k (Nat.succ n)) n
def fI {α : Type} (n : Int) (k : Int → α) : α := Int.rec (motive := fun _ => α) (fun n => fN n fun n => k (.ofNat n)) (fun n => fN n fun n => k (.negSucc n)) n
def semV {α : Type} : Sem α → Option α
  | .pure a => some a
  | _ => none
def atomX : Value → Bool
  | .bool _ => true
  | .int _ _ => true
  | .float _ _ => true
  | .complex _ _ _ => true
  | .string _ => true
  | .slice none 0 0 => true
  | .pointer none | .map none | .nilFunc | .nilIface => true
  | _ => false
def atomsX (l : List Value) : Option (List CX) :=
  List.rec (motive := fun _ => Option (List CX)) (some []) (fun v _ ih => gd (atomX v) (Option.rec (motive := fun _ => Option (List CX)) none (fun r => some (.v v :: r)) ih)) l
def constX : Value → Option TX
  | .agg cs => match atomsX cs.toList with
    | some l => some (.a l)
    | none => none
  | v => gd (atomX v) (some (.c (.v v)))
def evX (g : GX) : Operand → Option TX
  | .tmp t => g.get t
  | .const v => constX v
  | .func f => some (.c (.f f []))
  | .global _ => none
def cellsT : TX → Option (List CX)
  | .c x => some [x]
  | .a xs => some xs
  | _ => none
def partT (b : Bool) (ys : List CX) : Option TX := match b with
  | true => some (.a ys)
  | false => match ys with
    | [y] => some (.c y)
    | _ => none
def outV : Value → TX
  | .int k n => fI n fun n => .c (.v (.int k n))
  | v => .c (.v v)
def retV : Option Value → Option TX
  | some v => gd (atomX v) (some (outV v))
  | none => none
def modX : IntKind → Nat
  | .i8 => 256
  | .i16 => 65536
  | .i32 => 4294967296
  | .i64 => 18446744073709551616
  | .u8 => 256
  | .u16 => 65536
  | .u32 => 4294967296
  | .u64 => 18446744073709551616
def posX : IntKind → Nat
  | .i8 => 128
  | .i16 => 32768
  | .i32 => 2147483648
  | .i64 => 9223372036854775808
  | .u8 => 256
  | .u16 => 65536
  | .u32 => 4294967296
  | .u64 => 18446744073709551616
def natX (k : IntKind) : Int → Nat
  | .ofNat m => Nat.mod m (modX k)
  | .negSucc m => Nat.sub (Nat.sub (modX k) 1) (Nat.mod m (modX k))
def fromX (k : IntKind) (r : Nat) : Int := match Nat.blt r (posX k) with
  | true => .ofNat r
  | false => .negSucc (Nat.sub (Nat.sub (modX k) 1) r)
def wrapX (k : IntKind) (n : Int) : Int := fromX k (natX k n)
def addI : Int → Int → Int
  | .ofNat a, .ofNat b => .ofNat (Nat.add a b)
  | a, b => Int.add a b
def subI : Int → Int → Int
  | .ofNat a, .ofNat b => match Nat.ble b a with
    | true => .ofNat (Nat.sub a b)
    | false => .negSucc (Nat.sub (Nat.sub b a) 1)
  | a, b => Int.sub a b
def mulI : Int → Int → Int
  | .ofNat a, .ofNat b => .ofNat (Nat.mul a b)
  | a, b => Int.mul a b
def ltI : Int → Int → Bool
  | .ofNat a, .ofNat b => Nat.blt a b
  | .ofNat _, .negSucc _ => false
  | .negSucc _, .ofNat _ => true
  | .negSucc a, .negSucc b => Nat.blt b a
def eqI : Int → Int → Bool
  | .ofNat a, .ofNat b => Nat.beq a b
  | .negSucc a, .negSucc b => Nat.beq a b
  | _, _ => false
def shlI (k : IntKind) (b : Nat) : Int → Option Int
  | .ofNat a => some (wrapX k (.ofNat (Nat.mul a (Nat.pow 2 (Nat.min b k.bits)))))
  | _ => none
def shrI (k : IntKind) (b : Nat) : Int → Option Int
  | .ofNat a => some (.ofNat (Nat.div a (Nat.pow 2 (Nat.min b k.bits))))
  | _ => none
def intX (op : BinOp) (k : IntKind) (a b : Int) : Option TX := match op with
  | .add => fI (wrapX k (addI a b)) fun n => some (.c (.v (.int k n)))
  | .sub => fI (wrapX k (subI a b)) fun n => some (.c (.v (.int k n)))
  | .mul => fI (wrapX k (mulI a b)) fun n => some (.c (.v (.int k n)))
  | .eql => some (.c (.v (.bool (eqI a b))))
  | .neq => some (.c (.v (.bool (!(eqI a b)))))
  | .lss => some (.c (.v (.bool (ltI a b))))
  | .leq => some (.c (.v (.bool (!(ltI b a)))))
  | .gtr => some (.c (.v (.bool (ltI b a))))
  | .geq => some (.c (.v (.bool (!(ltI a b)))))
  | .and => fI (fromX k (Nat.land (natX k a) (natX k b))) fun n => some (.c (.v (.int k n)))
  | .or => fI (fromX k (Nat.lor (natX k a) (natX k b))) fun n => some (.c (.v (.int k n)))
  | .xor => fI (fromX k (Nat.xor (natX k a) (natX k b))) fun n => some (.c (.v (.int k n)))
  | .shl => (match b with
    | .ofNat b => (match shlI k b a with
      | some n => fI n fun n => some (.c (.v (.int k n)))
      | none => none)
    | _ => none)
  | .shr => (match b with
    | .ofNat b => (match shrI k b a with
      | some n => fI n fun n => some (.c (.v (.int k n)))
      | none => none)
    | _ => none)
  | .quo => (match a, b with
    | .ofNat a, .ofNat (b + 1) => fI (wrapX k (.ofNat (Nat.div a (Nat.succ b)))) fun n => some (.c (.v (.int k n)))
    | _, _ => none)
  | .rem => (match a, b with
    | .ofNat a, .ofNat (b + 1) => fN (Nat.mod a (Nat.succ b)) fun n => some (.c (.v (.int k (.ofNat n))))
    | _, _ => none)
  | _ => none
def strX (op : BinOp) (a b : ByteArray) : Option TX := retV (semV (binOp op 0 (.string a) (.string b)))
def eqKx : KX → CX → CX → Option Bool
  | .bool, .v (.bool a), .v (.bool b) => some (a == b)
  | .ptr _, .v (.pointer none), .v (.pointer none) => some true
  | .ptr _, .v (.pointer none), .p _ _ => some false
  | .ptr _, .p _ _, .v (.pointer none) => some false
  | .slice _, .v (.slice none 0 0), .v (.slice none 0 0) => some true
  | .slice _, .v (.slice none 0 0), .s _ _ _ _ m _ => gd (Nat.blt 0 m) (some false)
  | .slice _, .s _ _ _ _ m _, .v (.slice none 0 0) => gd (Nat.blt 0 m) (some false)
  | .map _ _, .v (.map none), .v (.map none) => some true
  | .map _ _, .v (.map none), .m _ => some false
  | .map _ _, .m _, .v (.map none) => some false
  | .func, .v .nilFunc, .v .nilFunc => some true
  | .func, .v .nilFunc, .f _ _ => some false
  | .func, .f _ _, .v .nilFunc => some false
  | _, _, _ => none
def valsX (l : List CX) : Option (List Value) :=
  List.rec (motive := fun _ => Option (List Value)) (some []) (fun c _ ih => match c with
    | .v v => Option.rec (motive := fun _ => Option (List Value)) none (fun r => some (v :: r)) ih
    | _ => none) l
abbrev OX := List ((Nat × Nat) × Nat)
def lkO (l : OX) (k m : Nat) : Option Nat :=
  List.rec (motive := fun _ => Option Nat) none (fun x _ ih => Bool.rec (motive := fun _ => Option Nat) ih (some x.2) (Nat.beq x.1.1 k && Nat.beq x.1.2 m)) l
def argX (O : OX) (op : BinOp) (k : Nat) (kb : IntKind) (b : Nat) : Option TX := match op with
  | .shr => gd (Nat.ble b 63) (fN (Nat.add k b) fun k => some (.c (.x k)))
  | .and => gd (kb == .i64) (match lkO O k b with
    | some r => some (.c (.v (.int .i64 (.ofNat r))))
    | none => none)
  | _ => none
def boolX (op : BinOp) (b : Option Bool) : Option TX := match op with
  | .eql => match b with
    | some b => some (.c (.v (.bool b)))
    | none => none
  | .neq => match b with
    | some b => some (.c (.v (.bool (!b))))
    | none => none
  | _ => none
def kdX (Y : Tr YX) (t : Nat) : KX := match Y.get t with
  | some y => y.kd
  | none => .other
def binV (Y : Tr YX) (op : BinOp) (t : Nat) (x y : Value) : Option TX := match x with
  | .int k a => (match y with
    | .int k' b => (match op with
      | .shl => intX op k a b
      | .shr => intX op k a b
      | op => gd (k == k') (intX op k a b))
    | _ => none)
  | .string a => (match y with
    | .string b => strX op a b
    | _ => none)
  | .float k a => (match y with
    | .float k' b => retV (semV (binOp op t (.float k a) (.float k' b)))
    | _ => none)
  | x => boolX op (eqKx (kdX Y t) (.v x) (.v y))
def binC (Y : Tr YX) (O : OX) (op : BinOp) (t : Nat) (x y : CX) : Option TX := match x with
  | .v x => (match y with
    | .v y => binV Y op t x y
    | y => boolX op (eqKx (kdX Y t) (.v x) y))
  | .x k => (match y with
    | .v (.int kb (.ofNat b)) => argX O op k kb b
    | _ => none)
  | x => boolX op (eqKx (kdX Y t) x y)
def binX (P : Program) (Y : Tr YX) (O : OX) (op : BinOp) (t : Nat) (x y : TX) : Option TX := match x with
  | .c x => (match y with
    | .c y => binC Y O op t x y
    | _ => none)
  | .a xs => (match y with
    | .a ys => (match valsX xs, valsX ys with
      | some us, some vs => gd (flatS P t us vs) (boolX op (some (eqVs us vs)))
      | _, _ => none)
    | _ => none)
  | _ => none
def idxI : TX → Option Nat
  | .c (.v (.int _ (.ofNat n))) => some n
  | _ => none
def bndX (g : GX) (d : Nat) : Option Operand → Option Nat
  | none => some d
  | some x => match evX g x with
    | some t => idxI t
    | none => none
def strN (s : ByteArray) : List CX := s.data.toList.map fun b => .v (.int .u8 (.ofNat b.toNat))
def bytesX (l : List CX) : Option (List UInt8) :=
  List.rec (motive := fun _ => Option (List UInt8)) (some []) (fun c _ ih => match c with
    | .v (.int .u8 (.ofNat n)) => Option.rec (motive := fun _ => Option (List UInt8)) none (fun r => some (UInt8.ofNat n :: r)) ih
    | _ => none) l
def cutS (s : ByteArray) (lo hi : Nat) : Option Value := gd (Nat.ble lo hi && Nat.ble hi s.size) (match cutX s.data.toList lo (Nat.sub hi lo) with
  | some l => some (.string ⟨l.toArray⟩)
  | none => none)
def lkM (l : List (Int × CX)) (i : Int) : Option CX :=
  List.rec (motive := fun _ => Option CX) none (fun x _ ih => Bool.rec (motive := fun _ => Option CX) ih (some x.2) (eqI x.1 i)) l
def upM (l : List (Int × CX)) (i : Int) (c : CX) : List (Int × CX) :=
  List.rec (motive := fun _ => List (Int × CX)) [(i, c)] (fun x l ih => Bool.rec (motive := fun _ => List (Int × CX)) (x :: ih) ((x.1, c) :: l) (eqI x.1 i)) l
def evs (g : GX) (l : List Operand) : Option (List TX) :=
  List.rec (motive := fun _ => Option (List TX)) (some []) (fun x _ ih => Option.rec (motive := fun _ => Option (List TX)) none (fun t => Option.rec (motive := fun _ => Option (List TX)) none (fun r => some (t :: r)) ih) (evX g x)) l
def ptrs (l : List TX) : Option (List (Nat × Nat)) :=
  List.rec (motive := fun _ => Option (List (Nat × Nat))) (some []) (fun x _ ih => match x with
    | .c (.p b k) => Option.rec (motive := fun _ => Option (List (Nat × Nat))) none (fun r => some ((b, k) :: r)) ih
    | _ => none) l
def fillX (place : Nat → Option (Nat × Nat)) (g : GX) (l : List (Nat × Operand)) : List CX → Option (List CX) :=
  List.rec (motive := fun _ => List CX → Option (List CX)) (fun cs => some cs) (fun x _ ih cs => match place x.1 with
    | none => none
    | some (off, size) => match evX g x.2 with
      | none => none
      | some t => match cellsT t with
        | none => none
        | some vs => gd (Nat.beq (lenX vs) size) (match putX cs off vs with
          | some cs => ih cs
          | none => none)) l
section
variable (P : Program) (Y : Tr YX) (O : OX)
def szX (t : Nat) : Option Nat := match Y.get t with
  | some y => some y.size
  | none => none
def plX (l : List (Nat × Nat)) : Option (List (Nat × Nat)) :=
  List.rec (motive := fun _ => Option (List (Nat × Nat))) (some []) (fun x _ ih => Option.rec (motive := fun _ => Option (List (Nat × Nat))) none (fun n => Option.rec (motive := fun _ => Option (List (Nat × Nat))) none (fun r => some ((x.1, n) :: r)) ih) (szX Y x.2)) l
def pureX (g : GX) : Op → Option TX
  | .move x => evX g x
  | .assign x => evX g x
  | .pick c a b => match evX g c with
    | some (.c (.v (.bool true))) => evX g a
    | some (.c (.v (.bool false))) => evX g b
    | _ => none
  | .nilCheck x => match evX g x with
    | some (.c (.p b k)) => some (.c (.p b k))
    | some (.c (.f i l)) => some (.c (.f i l))
    | _ => none
  | .fieldAddr s x f => match Y.get s with
    | some ⟨.struct fs, _, _⟩ => (match nth fs f with
      | some (off, ft) => (match szX Y ft with
        | some (n + 1) => (match evX g x with
          | some (.c (.p b k)) => fN (Nat.add k off) fun k => some (.c (.p b k))
          | _ => none)
        | _ => none)
      | none => none)
    | _ => none
  | .field s x f => match Y.get s with
    | some ⟨.struct fs, _, _⟩ => (match nth fs f with
      | some (off, ft) => (match Y.get ft with
        | some ⟨kd, sz, _⟩ => (match evX g x with
          | some (.a xs) => (match cutX xs off sz with
            | some ys => partT kd.agg ys
            | none => none)
          | _ => none)
        | none => none)
      | none => none)
    | _ => none
  | .indexAddr t x i => match Y.get t with
    | some ⟨.slice e, _, _⟩ => (match evX g x, bndX g 0 (some i), szX Y e with
      | some (.c (.s b k n e' m ex)), some j, some sz => gd (Nat.blt j n && Nat.blt 0 m) (fN (Nat.add k (Nat.mul j sz)) fun k => some (.c (.p b k)))
      | _, _, _ => none)
    | some ⟨.array n e, _, _⟩ => (match evX g x, bndX g 0 (some i), szX Y e with
      | some (.c (.p b k)), some j, some sz => gd (Nat.blt j n) (fN (Nat.add k (Nat.mul j sz)) fun k => some (.c (.p b k)))
      | _, _, _ => none)
    | _ => none
  | .index t x i => match evX g x, bndX g 0 (some i) with
    | some (.c (.v (.string s))), some j => (match kdX Y t with
      | .string => (match nth s.data.toList j with
        | some b => fN b.toNat fun n => some (.c (.v (.int .u8 (.ofNat n))))
        | none => none)
      | _ => none)
    | some (.a xs), some j => (match Y.get t with
      | some ⟨.array n e, _, _⟩ => (match Y.get e with
        | some ⟨kd, sz, _⟩ => gd (Nat.blt j n) (match cutX xs (Nat.mul j sz) sz with
          | some ys => partT kd.agg ys
          | none => none)
        | none => none)
      | _ => none)
    | _, _ => none
  | .binOp op t x y _ => match evX g x, evX g y with
    | some a, some b => binX P Y O op t a b
    | _, _ => none
  | .unOp op _ x => match evX g x with
    | some (.c (.v v)) => retV (semV (Op.unary op v))
    | _ => none
  | .extract x i => match evX g x with
    | some (.t ts) => nth ts i
    | _ => none
  | .build t parts => match Y.get t with
    | some ⟨.struct fs, _, z⟩ => (match plX Y fs with
      | some pl => (match fillX (nth pl) g parts.toList z with
        | some cs => some (.a cs)
        | none => none)
      | none => none)
    | some ⟨.array _ e, _, z⟩ => (match szX Y e with
      | some sz => (match fillX (fun i => some (Nat.mul i sz, sz)) g parts.toList z with
        | some cs => some (.a cs)
        | none => none)
      | none => none)
    | _ => none
  | .makeFunc (.func f) first caps => match first.toList, evs g caps.toList with
    | [], some ts => (match ptrs ts with
      | some l => some (.c (.f f l))
      | none => none)
    | _, _ => none
  | .slice t x lo hi mx => match Y.get t, evX g x with
    | some ⟨.string, _, _⟩, some (.c (.v (.string s))) => (match bndX g 0 lo, bndX g s.size hi, mx with
      | some l, some h, none => (match cutS s l h with
        | some v => some (.c (.v v))
        | none => none)
      | _, _, _ => none)
    | some ⟨.slice e, _, _⟩, some (.c (.v (.slice none 0 0))) => (match bndX g 0 lo, bndX g 0 hi, mx, szX Y e with
      | some 0, some 0, none, some _ => some (.c (.v (.slice none 0 0)))
      | _, _, _, _ => none)
    | some ⟨.slice e, _, _⟩, some (.c (.s b k n e' m ex)) => (match bndX g 0 lo, bndX g n hi, szX Y e with
      | some l, some h, some sz => (match mx with
        | none => gd (Nat.ble l h && Nat.ble h m && Nat.beq e' sz) (fN (Nat.add k (Nat.mul l sz)) fun k => fN (Nat.sub h l) fun n => fN (Nat.sub m l) fun m => some (.c (.s b k n e' m ex)))
        | some _ => (match hi, bndX g 0 mx with
          | some _, some q => gd (Nat.ble l h && Nat.ble h q && Nat.ble q m && Nat.beq e' sz) (fN (Nat.add k (Nat.mul l sz)) fun k => fN (Nat.sub h l) fun n => fN (Nat.sub q l) fun m => some (.c (.s b k n e' m true)))
          | _, _ => none))
      | _, _, _ => none)
    | _, _ => none
  | .convert s t x => match Y.get s, Y.get t, evX g x with
    | some _, some ⟨.int k, _, _⟩, some (.c (.v (.int k' n))) => fI (wrapX k n) fun n => some (.c (.v (.int k n)))
    | some _, some ⟨.float k, _, _⟩, some (.c (.v (.int _ n))) => retV (semV (Conv.intToFloat k n))
    | some _, some ⟨.int k, _, _⟩, some (.c (.v (.float f b))) => retV (semV (Conv.floatToInt f b k))
    | some _, some ⟨.string, _, _⟩, some (.c (.v (.string s))) => some (.c (.v (.string s)))
    | _, _, _ => none
  | _ => none
def newB (s : SX) (x : BX) (k : Nat → TX) : Option (TX × RX × SX) := fN s.c fun c => some (k c, .l [], ⟨s.h.set c (some x), Nat.succ c, c :: s.lg⟩)
def setB (s : SX) (b : Nat) (x : BX) : SX := ⟨s.h.set b (some x), s.c, b :: s.lg⟩
def cellsB (s : SX) (b : Nat) : Option (List CX) := match s.h.get b with
  | some (.cells xs) => some xs
  | _ => none
def srcX (s : SX) (sz : Nat) : TX → Option (Nat × List Nat × List CX)
  | .c (.v (.slice none 0 0)) => some (0, [], [])
  | .c (.v (.string x)) => gd (Nat.beq sz 1) (some (x.size, [], strN x))
  | .c (.s b k n e m ex) => match cellsB s b with
    | some xs => gd (Nat.beq e sz) (match cutX xs k (Nat.mul n sz) with
      | some ys => some (n, [b], ys)
      | none => none)
    | none => none
  | _ => none
def appB (s : SX) (sz : Nat) (x y : TX) : Option (TX × RX × SX) := match srcX s sz y with
  | none => none
  | some (n2, rb, ys) => gd (Nat.ble n2 65536) (match x with
    | .c (.v (.slice none 0 0)) => (match n2 with
      | 0 => some (.c (.v (.slice none 0 0)), .l rb, s)
      | n2 + 1 => (match newB s (.cells ys) (fun c => .c (.s c 0 (Nat.succ n2) sz (Nat.succ n2) false)) with
        | some (t, _, s) => some (t, .l rb, s)
        | none => none))
    | .c (.s b k n e m ex) => gd (Nat.beq e sz && Nat.ble n 65536) (fN (Nat.add n n2) fun n3 => (match Nat.ble n3 m with
      | true => (match n2 with
        | 0 => some (.c (.s b k n e m ex), .l rb, s)
        | _ => (match cellsB s b with
          | some xs => (match putX xs (Nat.add k (Nat.mul n sz)) ys with
            | some zs => some (.c (.s b k n3 e m ex), .l (b :: rb), setB s b (.cells zs))
            | none => none)
          | none => none))
      | false => (match cellsB s b with
        | some xs => (match cutX xs k (Nat.mul n sz) with
          | some zs => (match ex with
            | true => (match newB s (.cells (appX zs ys)) (fun c => .c (.s c 0 n3 sz n3 false)) with
              | some (t, _, s) => some (t, .l (b :: rb), s)
              | none => none)
            | false => (match k with
              | 0 => fN s.c fun c => some (.c (.s c 0 n3 sz n3 false), .l (b :: rb), ⟨(s.h.set b none).set c (some (.cells (appX zs ys))), Nat.succ c, c :: b :: s.lg⟩)
              | _ => none))
          | none => none)
        | none => none)))
    | _ => none)
def srcK (t : Nat) (sz : Nat) : Bool := match kdX Y t with
  | .slice _ => true
  | .string => Nat.beq sz 1
  | _ => false
def lenB (s : SX) (kd : KX) (x : CX) : Option (TX × RX × SX) := match kd, x with
  | .string, .v (.string x) => fN x.size fun n => some (.c (.v (.int .i64 (.ofNat n))), .l [], s)
  | .slice _, .v (.slice none 0 0) => some (.c (.v (.int .i64 (.ofNat 0))), .l [], s)
  | .slice _, .s _ _ n _ _ _ => some (.c (.v (.int .i64 (.ofNat n))), .l [], s)
  | .map _ _, .m b => (match s.h.get b with
    | some (.map es) => fN (lenX es) fun n => some (.c (.v (.int .i64 (.ofNat n))), .l [b], s)
    | _ => none)
  | _, _ => none
def capB (s : SX) (kd : KX) (x : CX) : Option (TX × RX × SX) := match kd, x with
  | .slice _, .v (.slice none 0 0) => some (.c (.v (.int .i64 (.ofNat 0))), .l [], s)
  | .slice _, .s _ _ _ _ m true => some (.c (.v (.int .i64 (.ofNat m))), .l [], s)
  | _, _ => none
def clrB (s : SX) (t b k n e m : Nat) : Option (TX × RX × SX) := match Y.get t with
  | some ⟨.slice el, _, _⟩ => (match Y.get el, cellsB s b with
    | some ⟨_, sz, z⟩, some xs => gd (Nat.beq e sz && Nat.blt 0 n && Nat.blt 0 m) (match putX xs k (repX z n) with
      | some us => some (.t [], .l [b], setB s b (.cells us))
      | none => none)
    | _, _ => none)
  | _ => none
def biX (g : GX) (s : SX) (b : Builtin) (tys : List Nat) (xs : List TX) : Option (TX × RX × SX) :=
  match b, tys, xs with
  | .len, t :: _, [.c x] => lenB s (kdX Y t) x
  | .cap, t :: _, [.c x] => capB s (kdX Y t) x
  | .min, _, [.c (.v (.int k a)), .c (.v (.int _ b))] => (match ltI b a with
    | true => some (.c (.v (.int k b)), .l [], s)
    | false => some (.c (.v (.int k a)), .l [], s))
  | .max, _, [.c (.v (.int k a)), .c (.v (.int _ b))] => (match ltI a b with
    | true => some (.c (.v (.int k b)), .l [], s)
    | false => some (.c (.v (.int k a)), .l [], s))
  | .complex, _, [.c (.v (.float k a)), .c (.v (.float k' b))] => gd (k == k') (some (.c (.v (.complex k a b)), .l [], s))
  | .real, _, [.c (.v (.complex k a b))] => some (.c (.v (.float k a)), .l [], s)
  | .imag, _, [.c (.v (.complex k a b))] => some (.c (.v (.float k b)), .l [], s)
  | .append, [t, t2], [x, y] => (match Y.get t with
    | some ⟨.slice e, _, _⟩ => (match szX Y e with
      | some (sz + 1) => gd (srcK Y t2 (Nat.succ sz)) (appB s (Nat.succ sz) x y)
      | _ => none)
    | _ => none)
  | .clear, t :: _, [.c (.s b k n e m ex)] => clrB Y s t b k n e m
  | _, _, _ => none
def lkT (ok : Bool) (c : CX) (f : Bool) : TX := match ok with
  | true => .t [.c c, .c (.v (.bool f))]
  | false => .c c
def keyK (t : Nat) : Bool := match kdX Y t with
  | .map q _ => (match kdX Y q with
    | .int .i64 => true
    | _ => false)
  | _ => false
def heapX (g : GX) (s : SX) : Op → Option (TX × RX × SX)
  | .alloc t => match Y.get t with
    | some y => newB s (.cells y.zero) fun c => .c (.p c 0)
    | none => none
  | .box _ x => match evX g x with
    | some t => (match cellsT t with
      | some xs => newB s (.cells xs) fun c => .c (.p c 0)
      | none => none)
    | none => none
  | .buildSlice t n parts => match Y.get t with
    | some ⟨.slice e, _, _⟩ => (match Y.get e with
      | some ⟨_, sz, z⟩ => gd (Nat.ble (Nat.mul n sz) 65536 && Nat.ble n 65536) (match fillX (fun i => some (Nat.mul i sz, sz)) g parts.toList (repX z n) with
        | some cs => newB s (.cells cs) fun c => .c (.s c 0 n sz n true)
        | none => none)
      | none => none)
    | _ => none
  | .load t x => match Y.get t, evX g x with
    | some y, some (.c (.p b k)) => (match cellsB s b with
      | some xs => (match cutX xs k y.size with
        | some ys => (match partT y.kd.agg ys with
          | some t => some (t, .l [b], s)
          | none => none)
        | none => none)
      | none => none)
    | _, _ => none
  | .store t x v => match Y.get t, evX g x, evX g v with
    | some y, some (.c (.p b k)), some u => (match cellsT u, cellsB s b with
      | some vs, some xs => gd (Nat.beq (lenX vs) y.size) (match putX xs k vs with
        | some zs => some (.no, .l [b], setB s b (.cells zs))
        | none => none)
      | _, _ => none)
    | _, _, _ => none
  | .makeSlice t n m => match Y.get t, bndX g 0 (some n), bndX g 0 (some m) with
    | some ⟨.slice e, _, _⟩, some n, some m => (match Y.get e with
      | some ⟨_, sz, z⟩ => gd (Nat.ble n m && Nat.ble (Nat.mul m sz) 65536 && Nat.blt 0 (Nat.mul m sz)) (newB s (.cells (repX z m)) fun c => .c (.s c 0 n sz m true))
      | none => none)
    | _, _, _ => none
  | .convert a t x => match Y.get a, Y.get t, evX g x with
    | some ⟨.slice e, _, _⟩, some ⟨.string, _, _⟩, some (.c (.v (.slice none 0 0))) => (match kdX Y e with
      | .int .u8 => some (.c (.v (.string ⟨#[]⟩)), .l [], s)
      | _ => none)
    | some ⟨.slice e, _, _⟩, some ⟨.string, _, _⟩, some (.c (.s b k n _ _ _)) => (match kdX Y e, cellsB s b with
      | .int .u8, some xs => (match cutX xs k n with
        | some ys => (match bytesX ys with
          | some l => some (.c (.v (.string ⟨l.toArray⟩)), .l [b], s)
          | none => none)
        | none => none)
      | _, _ => none)
    | _, _, _ => none
  | .makeMap _ none => newB s (.map []) fun c => .c (.m c)
  | .lookup t x i ok => match Y.get t, evX g x, evX g i with
    | some ⟨.map q e, _, _⟩, some (.c (.m b)), some (.c (.v (.int .i64 j))) => (match kdX Y q, s.h.get b, Y.get e with
      | .int .i64, some (.map es), some ⟨kd, _, z⟩ => gd (!kd.agg) (match lkM es j, z with
        | some c, _ => some (lkT ok c true, .l [b], s)
        | none, [z] => some (lkT ok z false, .l [b], s)
        | _, _ => none)
      | _, _, _ => none)
    | _, _, _ => none
  | .mapUpdate t x i v => match evX g x, evX g i, evX g v with
    | some (.c (.m b)), some (.c (.v (.int .i64 j))), some (.c c) => (match keyK Y t, s.h.get b with
      | true, some (.map es) => some (.no, .l [b], setB s b (.map (upM es j c)))
      | _, _ => none)
    | _, _, _ => none
  | .call ⟨.builtin b, xs, tys⟩ => match evs g xs.toList with
    | some ts => biX Y g s b tys.toList ts
    | none => none
  | _ => none
end
end
end Go.Proofs.YteomkfapkfogcaaGreat
namespace Go.Proofs.YteomkfapkfogcaaGreat
noncomputable section
inductive EX where
  | nr
  | ex (id : Nat)
  | go (l : Nat)
  | rt
def memX (l : List Nat) (x : Nat) : Bool := List.rec (motive := fun _ => Bool) false (fun a _ ih => Bool.rec (motive := fun _ => Bool) ih true (Nat.beq a x)) l
def meetX (l m : List Nat) : Bool := List.rec (motive := fun _ => Bool) false (fun a _ ih => Bool.rec (motive := fun _ => Bool) ih true (memX m a)) l
def anyLt (c : Nat) (l : List Nat) : Bool := List.rec (motive := fun _ => Bool) false (fun a _ ih => Bool.rec (motive := fun _ => Bool) ih true (Nat.blt a c)) l
def hitX (wb : List Nat) : RX → Bool
  | .l bs => meetX wb bs
  | .all c => anyLt c wb
def predX (o : Oper) : List Nat := (o.after.toList.filter (Region.binds .any)).map (·.on)
def ancX : List Oper → List (List Nat) → List (List Nat)
  | [], acc => acc
  | o :: r, acc => ancX r (acc ++ [predX o ++ (predX o).flatMap (acc.getD · [])])
structure NX where
  i : Nat
  rb : RX
  wb : List Nat
def ordX (ops : List Oper) (a b : NX) : Bool := memX ((ancX ops []).getD b.i []) a.i
def pairX (ops : List Oper) (a b : NX) : Bool := match meetX a.wb b.wb with
  | true => ordX ops a b
  | false => match hitX a.wb b.rb with
    | true => ordX ops a b
    | false => match hitX b.wb a.rb with
      | true => ordX ops a b
      | false => true
def allP (ops : List Oper) (b : NX) (l : List NX) : Bool := List.rec (motive := fun _ => Bool) true (fun a _ ih => Bool.rec (motive := fun _ => Bool) false ih (pairX ops a b)) l
def wnX (ops : List Oper) (g : GX) (o : Oper) : Option Bool :=
  match o.guard with
  | none => some true
  | some (j, want) => match nth ops j with
    | none => none
    | some q => match q.dst with
      | none => none
      | some d => match g.get d with
        | some (.c (.v (.bool b))) => some (b == want)
        | some .no => some false
        | _ => none
def putT (g : GX) (o : Oper) (t : TX) : GX := match o.dst with
  | none => g
  | some d => g.put d t
structure FX where
  fn : Func
  esc : Nat
section
variable (P : Program) (Y : Tr YX) (F : Tr FX) (O : OX) (M : Nat → List TX → Option TX)
def argT (esc : Nat) (l : List TX) : Nat → List (Nat × TX) :=
  List.rec (motive := fun _ => Nat → List (Nat × TX)) (fun _ => []) (fun t _ ih i => Nat.rec (motive := fun _ => List (Nat × TX)) (ih (Nat.succ i)) (fun _ _ => (i, t) :: ih (Nat.succ i)) (Nat.mod (Nat.div esc (Nat.pow 2 i)) 2)) l
def capT (l : List (Nat × Nat)) : List TX := List.rec (motive := fun _ => List TX) [] (fun x _ ih => .c (.p x.1 x.2) :: ih) l
def resX (g : GX) (s : SX) (l : List ResultVar) : Option (List TX) :=
  List.rec (motive := fun _ => Option (List TX)) (some []) (fun r _ ih => match r with
    | .tmp t => (match g.get t with
      | some x => (match cellsT x, ih with
        | some _, some r => some (x :: r)
        | _, _ => none)
      | none => none)
    | .cell t y => match heapX Y g s (.load y (.tmp t)) with
      | some (x, _, _) => (match cellsT x, ih with
        | some _, some r => some (x :: r)
        | _, _ => none)
      | none => none) l
def oneT : List TX → TX
  | [x] => x
  | l => .t l
abbrev RecX := Nat → Code → GX → SX → Option (EX × GX × SX)
def callX (rec : RecX) (f : Nat) (ts : List TX) (s : SX) : Option (TX × SX) := match M f ts with
  | some t => some (t, s)
  | none => match F.get f with
    | none => none
    | some ⟨fn, esc⟩ => match fn.body with
      | none => none
      | some body => match Nat.ble (lenX ts) fn.ntmps with
        | false => none
        | true => match rec esc body ⟨[], argT esc ts 0⟩ s with
          | some (.nr, g, s) => (match resX Y g s fn.results.toList with
            | some l => some (oneT l, s)
            | none => none)
          | some (.rt, g, s) => (match resX Y g s fn.results.toList with
            | some l => some (oneT l, s)
            | none => none)
          | _ => none
def opX (rec : RecX) (g : GX) (s : SX) (o : Op) : Option (TX × RX × SX) := match pureX P Y O g o with
  | some t => some (t, .l [], s)
  | none => match o with
    | .call ⟨.value f, xs, _⟩ => (match evX g f, evs g xs.toList with
      | some (.c (.f i caps)), some ts => (match callX Y F M rec i (appX ts (capT caps)) s with
        | some (t, s') => some (t, .all s.c, s')
        | none => none)
      | _, _ => none)
    | o => heapX Y g s o
def textX (rec : RecX) (ops l : List Oper) : GX → SX → Option (GX × SX) :=
  List.rec (motive := fun _ => GX → SX → Option (GX × SX)) (fun g s => some (g, s)) (fun o _ ih g s => match wnX ops g o with
    | none => none
    | some false => ih (putT g o .no) s
    | some true => match opX P Y F O M rec g s o.op with
      | some (t, _, s) => ih (putT g o t) s
      | none => none) l
def drawX (rec : RecX) (ops l : List Oper) : Nat → List NX → GX → SX → Option (GX × SX) :=
  List.rec (motive := fun _ => Nat → List NX → GX → SX → Option (GX × SX)) (fun _ _ g s => some (g, s)) (fun o _ ih i acc g s => match wnX ops g o with
    | none => none
    | some false => ih (Nat.succ i) acc (putT g o .no) s
    | some true => match opX P Y F O M rec g ⟨s.h, s.c, []⟩ o.op with
      | none => none
      | some (t, .l [], ⟨h, c, []⟩) => ih (Nat.succ i) acc (putT g o t) ⟨h, c, s.lg⟩
      | some (t, rb, ⟨h, c, wb⟩) => match allP ops ⟨i, rb, wb⟩ acc with
        | true => ih (Nat.succ i) (⟨i, rb, wb⟩ :: acc) (putT g o t) ⟨h, c, appX wb s.lg⟩
        | false => none) l
def scopeX (rec : RecX) (esc : Nat) (c : Code) (n : Nat) : Code → GX → SX → Option (EX × GX × SX) :=
  Nat.rec (motive := fun _ => Code → GX → SX → Option (EX × GX × SX)) (fun _ _ _ => none) (fun _ ih x g s => match rec esc x g s with
    | some (.go l, g, s) => (match findLabel c l with
      | some r => ih r g s
      | none => none)
    | r => r) n
def codeX (rec : RecX) (esc : Nat) (c : Code) (g : GX) (s : SX) : Option (EX × GX × SX) := match c with
    | .skip => some (.nr, g, s)
    | .label _ => some (.nr, g, s)
    | .exit id => some (.ex id, g, s)
    | .goto l => some (.go l, g, s)
    | .ret => some (.rt, g, s)
    | .seq a b => (match rec esc a g s with
      | some (.nr, g, s) => rec esc b g s
      | r => r)
    | .cond x a b => (match evX g x with
      | some (.c (.v (.bool true))) => rec esc a g s
      | some (.c (.v (.bool false))) => rec esc b g s
      | _ => none)
    | .block id a => (match rec esc a g s with
      | some (.ex i, g, s) => (match Nat.beq i id with
        | true => some (.nr, g, s)
        | false => some (.ex i, g, s))
      | r => r)
    | .loop a => (match rec esc a g s with
      | some (.nr, g, s) => rec esc (.loop a) g s
      | r => r)
    | .scope a => scopeX rec esc a 9 a g s
    | .region _ ops false => (match textX P Y F O M rec ops.toList ops.toList g s with
      | some (g, s) => some (.nr, g.fin esc, s)
      | none => none)
    | .region _ ops true => (match drawX P Y F O M rec ops.toList ops.toList 0 [] g s with
      | some (g, s) => some (.nr, g.fin esc, s)
      | none => none)
    | _ => none
def runX (n : Nat) : RecX := Nat.rec (motive := fun _ => RecX) (fun _ _ _ _ => none) (fun _ ih => codeX P Y F O M ih) n
end
end
end Go.Proofs.YteomkfapkfogcaaGreat
namespace Go.Proofs.YteomkfapkfogcaaGreat
noncomputable section
structure LS where
  out : List (Nat × TX)
  h : Tr BX
  c : Nat
def LS.g (L : LS) : GX := ⟨[], L.out⟩
def LS.s (L : LS) : SX := ⟨L.h, L.c, []⟩
def eqU (a b : List UInt8) : Bool :=
  List.rec (motive := fun _ => List UInt8 → Bool) (fun b => match b with | [] => true | _ => false)
    (fun x _ ih b => match b with | y :: b => (match Nat.beq x.toNat y.toNat with | true => ih b | false => false) | [] => false) a b
def eqA : Value → Value → Bool
  | .bool a, .bool b => a == b
  | .int k a, .int l b => (match k == l with | true => eqI a b | false => false)
  | .string a, .string b => eqU a.data.toList b.data.toList
  | .slice none 0 0, .slice none 0 0 => true
  | .pointer none, .pointer none => true
  | .map none, .map none => true
  | .nilFunc, .nilFunc => true
  | .nilIface, .nilIface => true
  | _, _ => false
def eqP (a b : List (Nat × Nat)) : Bool :=
  List.rec (motive := fun _ => List (Nat × Nat) → Bool) (fun b => match b with | [] => true | _ => false)
    (fun x _ ih b => match b with | y :: b => (match Nat.beq x.1 y.1 && Nat.beq x.2 y.2 with | true => ih b | false => false) | [] => false) a b
def fitC (a b : CX) : Bool := match b with
  | .u => true
  | .v y => (match a with | .v x => eqA x y | _ => false)
  | .x j => (match a with | .x k => Nat.beq k j | _ => false)
  | .p b' k' => (match a with | .p b k => Nat.beq b b' && Nat.beq k k' | _ => false)
  | .s b' k' n' e' m' x' => (match a with | .s b k n e m x => Nat.beq b b' && Nat.beq k k' && Nat.beq n n' && Nat.beq e e' && Nat.beq m m' && (!x' || x) | _ => false)
  | .m b' => (match a with | .m b => Nat.beq b b' | _ => false)
  | .f i' c' => (match a with | .f i c => Nat.beq i i' && eqP c c' | _ => false)
def fitL (a b : List CX) : Bool :=
  List.rec (motive := fun _ => List CX → Bool) (fun b => match b with | [] => true | _ => false)
    (fun x _ ih b => match b with | y :: b => (match fitC x y with | true => ih b | false => false) | [] => false) a b
def fitM (a b : List (Int × CX)) : Bool :=
  List.rec (motive := fun _ => List (Int × CX) → Bool) (fun b => match b with | [] => true | _ => false)
    (fun x _ ih b => match b with | y :: b => (match eqI x.1 y.1 && fitC x.2 y.2 with | true => ih b | false => false) | [] => false) a b
def fitB : BX → BX → Bool
  | .cells a, .cells b => fitL a b
  | .map a, .map b => fitM a b
  | _, _ => false
def fitO : Option BX → Option BX → Bool
  | _, none => true
  | some a, some b => fitB a b
  | none, some _ => false
def fitTr (b : Tr BX) : Tr BX → Bool := Tr.rec (motive := fun _ => Tr BX → Bool) (fun _ => true)
  (fun _ v' _ il ir a => match a with
    | .e => false
    | .n l v r => (match fitO v v' with | true => (match il l with | true => ir r | false => false) | false => false)) b
def fitG (g : GX) (o : List (Nat × TX)) : Bool := List.rec (motive := fun _ => Bool) true
  (fun x _ ih => match g.get x.1, x.2 with
    | some (.c a), .c b => (match fitC a b with | true => ih | false => false)
    | _, _ => false) o
def fitLS (g : GX) (s : SX) (L : LS) : Bool := match Nat.ble s.c L.c with
  | true => (match fitG g L.out with
    | true => fitTr L.h s.h
    | false => false)
  | false => false
def lowT (t : Tr BX) : Nat → Bool := Tr.rec (motive := fun _ => Nat → Bool) (fun _ => true)
  (fun _ v _ il ir c => match (match v with | none => true | some _ => Nat.blt 0 c), il (Nat.div c 2), ir (Nat.div (Nat.sub c 1) 2) with
    | true, true, true => true
    | _, _, _ => false) t
def invB (esc : Nat) (o : List (Nat × TX)) : Bool := List.rec (motive := fun _ => Bool) true (fun x _ ih => match Nat.mod (Nat.div esc (Nat.pow 2 x.1)) 2 with | 0 => false | _ => ih) o
def okLS (esc : Nat) (L : LS) : Bool := match invB esc L.out with
  | true => lowT L.h L.c
  | false => false
section
variable (P : Program) (Y : Tr YX) (F : Tr FX) (O : OX) (M : Nat → List TX → Option TX) (esc : Nat)
def runL (l : List Code) : GX → SX → Option (GX × SX) := List.rec (motive := fun _ => GX → SX → Option (GX × SX)) (fun g s => some (g, s))
  (fun c _ ih g s => match runX P Y F O M 3000 esc c g s with
    | some (.nr, g, s) => ih g s
    | _ => none) l
def stepX (l : List Code) (L L' : LS) : Bool := match runL P Y F O M esc l L.g L.s with
  | some (g, s) => fitLS g s L'
  | _ => false
def leaveX (i : Nat) (c : Code) (L L' : LS) : Bool := match runX P Y F O M 3000 esc c L.g L.s with
  | some (.ex j, g, s) => (match Nat.beq j i with | true => fitLS g s L' | false => false)
  | _ => false
def endX (i : Nat) (c : Code) (L : LS) : Bool := match runX P Y F O M 3000 esc c L.g L.s with
  | some (.rt, g, s) => (match g.get i with | some (.c (.v (.bool true))) => true | _ => false)
  | _ => false
end
def seqs : List Code → Code → Code
  | [], r => r
  | c :: l, r => .seq c (seqs l r)
def fstC : Code → Code
  | .seq a _ => a
  | c => c
def sndC : Code → Code
  | .seq _ b => b
  | c => c
def inC : Code → Code
  | .block _ a => a
  | .loop a => a
  | c => c
end
end Go.Proofs.YteomkfapkfogcaaGreat
namespace Go.Proofs.YteomkfapkfogcaaGreat
set_option maxRecDepth 20000
noncomputable def typesX : Tr YX := (.n (.n (.n (.n (.n (.n (.n (.n (.n .e (some ⟨.func, 1, [.v .nilFunc]⟩) .e) (some ⟨.func, 1, [.v .nilFunc]⟩) (.n .e (some ⟨.func, 1, [.v .nilFunc]⟩) .e)) none (.n (.n .e (some ⟨.func, 1, [.v .nilFunc]⟩) .e) (some ⟨.struct [(0, 3), (1, 189), (2, 99), (3, 100), (4, 190)], 5, [.v (.int .i64 0), .v (.slice none 0 0), .v (.slice none 0 0), .v (.slice none 0 0), .v (.slice none 0 0)]⟩) (.n .e (some ⟨.func, 1, [.v .nilFunc]⟩) .e))) (some ⟨.struct [(0, 3), (1, 9), (2, 3), (3, 3), (4, 3)], 5, [.v (.int .i64 0), .v (.string ⟨#[]⟩), .v (.int .i64 0), .v (.int .i64 0), .v (.int .i64 0)]⟩) (.n (.n (.n .e (some ⟨.func, 1, [.v .nilFunc]⟩) .e) (some ⟨.func, 1, [.v .nilFunc]⟩) (.n .e (some ⟨.func, 1, [.v .nilFunc]⟩) .e)) (some ⟨.ptr 117, 1, [.v (.pointer none)]⟩) (.n (.n .e (some ⟨.struct [(0, 40), (1, 4)], 2, [.v (.slice none 0 0), .v (.bool false)]⟩) .e) (some ⟨.array 2 84, 58, [.v (.int .i64 0), .v (.int .i64 0), .v (.int .i64 0), .v (.int .u64 0), .v (.int .i64 0), .v (.int .i64 0), .v (.bool false), .v (.int .i64 0), .v (.int .i64 0), .v (.int .u64 0), .v (.slice none 0 0), .v (.bool false), .v (.int .i64 0), .v (.int .u64 0), .v (.slice none 0 0), .v (.int .i64 0), .v (.int .i64 0), .v (.slice none 0 0), .v (.bool false), .v (.int .i64 0), .v (.int .i64 0), .v (.int .i64 0), .v (.slice none 0 0), .v (.bool false), .v (.int .i64 0), .v (.int .i64 0), .v (.int .i64 0), .v (.slice none 0 0), .v (.bool false), .v (.int .i64 0), .v (.int .i64 0), .v (.int .i64 0), .v (.int .u64 0), .v (.int .i64 0), .v (.int .i64 0), .v (.bool false), .v (.int .i64 0), .v (.int .i64 0), .v (.int .u64 0), .v (.slice none 0 0), .v (.bool false), .v (.int .i64 0), .v (.int .u64 0), .v (.slice none 0 0), .v (.int .i64 0), .v (.int .i64 0), .v (.slice none 0 0), .v (.bool false), .v (.int .i64 0), .v (.int .i64 0), .v (.int .i64 0), .v (.slice none 0 0), .v (.bool false), .v (.int .i64 0), .v (.int .i64 0), .v (.int .i64 0), .v (.slice none 0 0), .v (.bool false)]⟩) (.n .e (some ⟨.func, 1, [.v .nilFunc]⟩) .e)))) (some ⟨.ptr 490, 1, [.v (.pointer none)]⟩) (.n (.n (.n (.n .e (some ⟨.func, 1, [.v .nilFunc]⟩) .e) (some ⟨.struct [(0, 9), (1, 3), (2, 3)], 3, [.v (.string ⟨#[]⟩), .v (.int .i64 0), .v (.int .i64 0)]⟩) (.n .e (some ⟨.func, 1, [.v .nilFunc]⟩) .e)) (some ⟨.struct [(0, 3), (1, 3), (2, 3), (3, 37), (4, 4)], 5, [.v (.int .i64 0), .v (.int .i64 0), .v (.int .i64 0), .v (.slice none 0 0), .v (.bool false)]⟩) (.n (.n .e (some ⟨.func, 1, [.v .nilFunc]⟩) .e) (some ⟨.func, 1, [.v .nilFunc]⟩) (.n .e (some ⟨.func, 1, [.v .nilFunc]⟩) .e))) (some ⟨.struct [(0, 9), (1, 3)], 2, [.v (.string ⟨#[]⟩), .v (.int .i64 0)]⟩) (.n (.n (.n .e (some ⟨.func, 1, [.v .nilFunc]⟩) .e) none (.n .e (some ⟨.func, 1, [.v .nilFunc]⟩) .e)) none (.n (.n .e (some ⟨.func, 1, [.v .nilFunc]⟩) .e) (some ⟨.struct [(0, 3), (1, 3), (2, 3), (3, 36)], 4, [.v (.int .i64 0), .v (.int .i64 0), .v (.int .i64 0), .v (.slice none 0 0)]⟩) (.n .e (some ⟨.int .u8, 1, [.v (.int .u8 0)]⟩) .e))))) (some ⟨.struct [(0, 2), (1, 3), (2, 4), (3, 6)], 4, [.v (.int .i64 0), .v (.int .i64 0), .v (.bool false), .v (.int .u8 0)]⟩) (.n (.n (.n (.n (.n .e (some ⟨.func, 1, [.v .nilFunc]⟩) .e) (some ⟨.func, 1, [.v .nilFunc]⟩) (.n .e (some ⟨.func, 1, [.v .nilFunc]⟩) .e)) (some ⟨.struct [(0, 3), (1, 3), (2, 4)], 3, [.v (.int .i64 0), .v (.int .i64 0), .v (.bool false)]⟩) (.n (.n .e (some ⟨.func, 1, [.v .nilFunc]⟩) .e) none (.n .e (some ⟨.func, 1, [.v .nilFunc]⟩) .e))) (some ⟨.struct [(0, 3), (1, 3), (2, 9), (3, 36), (4, 37), (5, 4)], 6, [.v (.int .i64 0), .v (.int .i64 0), .v (.string ⟨#[]⟩), .v (.slice none 0 0), .v (.slice none 0 0), .v (.bool false)]⟩) (.n (.n (.n .e (some ⟨.func, 1, [.v .nilFunc]⟩) .e) none (.n .e (some ⟨.func, 1, [.v .nilFunc]⟩) .e)) (some ⟨.func, 1, [.v .nilFunc]⟩) (.n (.n .e (some ⟨.ptr 361, 1, [.v (.pointer none)]⟩) .e) (some ⟨.func, 1, [.v .nilFunc]⟩) (.n .e (some ⟨.func, 1, [.v .nilFunc]⟩) .e)))) (some ⟨.func, 1, [.v .nilFunc]⟩) (.n (.n (.n (.n .e (some ⟨.struct [(0, 3), (1, 264)], 2, [.v (.int .i64 0), .v (.slice none 0 0)]⟩) .e) (some ⟨.func, 1, [.v .nilFunc]⟩) (.n .e (some ⟨.func, 1, [.v .nilFunc]⟩) .e)) (some ⟨.struct [(0, 3), (1, 3), (2, 4), (3, 36), (4, 3), (5, 84), (34, 84), (63, 3), (64, 3), (65, 3), (66, 3), (67, 86), (69, 40), (70, 4)], 71, [.v (.int .i64 0), .v (.int .i64 0), .v (.bool false), .v (.slice none 0 0), .v (.int .i64 0), .v (.int .i64 0), .v (.int .i64 0), .v (.int .i64 0), .v (.int .u64 0), .v (.int .i64 0), .v (.int .i64 0), .v (.bool false), .v (.int .i64 0), .v (.int .i64 0), .v (.int .u64 0), .v (.slice none 0 0), .v (.bool false), .v (.int .i64 0), .v (.int .u64 0), .v (.slice none 0 0), .v (.int .i64 0), .v (.int .i64 0), .v (.slice none 0 0), .v (.bool false), .v (.int .i64 0), .v (.int .i64 0), .v (.int .i64 0), .v (.slice none 0 0), .v (.bool false), .v (.int .i64 0), .v (.int .i64 0), .v (.int .i64 0), .v (.slice none 0 0), .v (.bool false), .v (.int .i64 0), .v (.int .i64 0), .v (.int .i64 0), .v (.int .u64 0), .v (.int .i64 0), .v (.int .i64 0), .v (.bool false), .v (.int .i64 0), .v (.int .i64 0), .v (.int .u64 0), .v (.slice none 0 0), .v (.bool false), .v (.int .i64 0), .v (.int .u64 0), .v (.slice none 0 0), .v (.int .i64 0), .v (.int .i64 0), .v (.slice none 0 0), .v (.bool false), .v (.int .i64 0), .v (.int .i64 0), .v (.int .i64 0), .v (.slice none 0 0), .v (.bool false), .v (.int .i64 0), .v (.int .i64 0), .v (.int .i64 0), .v (.slice none 0 0), .v (.bool false), .v (.int .i64 0), .v (.int .i64 0), .v (.int .i64 0), .v (.int .i64 0), .v (.int .i64 0), .v (.int .i64 0), .v (.slice none 0 0), .v (.bool false)]⟩) (.n (.n .e (some ⟨.ptr 345, 1, [.v (.pointer none)]⟩) .e) (some ⟨.func, 1, [.v .nilFunc]⟩) (.n .e (some ⟨.func, 1, [.v .nilFunc]⟩) .e))) (some ⟨.struct [(0, 34), (1, 4), (2, 42)], 14, [.v (.int .i64 0), .v (.bool false), .v (.int .i64 0), .v (.int .i64 0), .v (.int .i64 0), .v (.int .i64 0), .v (.slice none 0 0), .v (.int .i64 0), .v (.int .i64 0), .v (.string ⟨#[]⟩), .v (.slice none 0 0), .v (.slice none 0 0), .v (.bool false), .v (.slice none 0 0)]⟩) (.n (.n (.n .e (some ⟨.func, 1, [.v .nilFunc]⟩) .e) (some ⟨.func, 1, [.v .nilFunc]⟩) (.n .e (some ⟨.func, 1, [.v .nilFunc]⟩) .e)) (some ⟨.func, 1, [.v .nilFunc]⟩) (.n (.n .e (some ⟨.func, 1, [.v .nilFunc]⟩) .e) (some ⟨.func, 1, [.v .nilFunc]⟩) (.n .e (some ⟨.struct [(0, 9)], 1, [.v (.string ⟨#[]⟩)]⟩) .e)))))) (some ⟨.int .i64, 1, [.v (.int .i64 0)]⟩) (.n (.n (.n (.n (.n .e (some ⟨.func, 1, [.v .nilFunc]⟩) (.n .e (some ⟨.func, 1, [.v .nilFunc]⟩) .e)) (some ⟨.struct [(0, 25), (7, 59), (8, 62), (9, 65), (10, 3)], 11, [.v (.int .i64 0), .v (.int .i64 0), .v (.int .i64 0), .v (.int .i64 0), .v (.int .i64 0), .v (.int .i64 0), .v (.int .i64 0), .v (.pointer none), .v (.slice none 0 0), .v (.slice none 0 0), .v (.int .i64 0)]⟩) (.n (.n .e (some ⟨.ptr 77, 1, [.v (.pointer none)]⟩) .e) (some ⟨.func, 1, [.v .nilFunc]⟩) (.n .e (some ⟨.func, 1, [.v .nilFunc]⟩) .e))) (some ⟨.slice 9, 1, [.v (.slice none 0 0)]⟩) (.n (.n .e (some ⟨.func, 1, [.v .nilFunc]⟩) (.n .e (some ⟨.func, 1, [.v .nilFunc]⟩) .e)) (some ⟨.slice 275, 1, [.v (.slice none 0 0)]⟩) (.n (.n .e (some ⟨.ptr 357, 1, [.v (.pointer none)]⟩) .e) (some ⟨.func, 1, [.v .nilFunc]⟩) (.n .e (some ⟨.func, 1, [.v .nilFunc]⟩) .e)))) (some ⟨.struct [(0, 17)], 1, [.v (.pointer none)]⟩) (.n (.n (.n (.n .e (some ⟨.struct [(0, 9), (1, 3), (2, 3), (3, 3)], 4, [.v (.string ⟨#[]⟩), .v (.int .i64 0), .v (.int .i64 0), .v (.int .i64 0)]⟩) .e) (some ⟨.func, 1, [.v .nilFunc]⟩) (.n .e (some ⟨.func, 1, [.v .nilFunc]⟩) .e)) (some ⟨.struct [(0, 28), (4, 71), (7, 73), (12, 75), (15, 77), (19, 79), (24, 82)], 29, [.v (.int .i64 0), .v (.int .i64 0), .v (.int .i64 0), .v (.int .u64 0), .v (.int .i64 0), .v (.int .i64 0), .v (.bool false), .v (.int .i64 0), .v (.int .i64 0), .v (.int .u64 0), .v (.slice none 0 0), .v (.bool false), .v (.int .i64 0), .v (.int .u64 0), .v (.slice none 0 0), .v (.int .i64 0), .v (.int .i64 0), .v (.slice none 0 0), .v (.bool false), .v (.int .i64 0), .v (.int .i64 0), .v (.int .i64 0), .v (.slice none 0 0), .v (.bool false), .v (.int .i64 0), .v (.int .i64 0), .v (.int .i64 0), .v (.slice none 0 0), .v (.bool false)]⟩) (.n (.n .e (some ⟨.int .u32, 1, [.v (.int .u32 0)]⟩) .e) (some ⟨.func, 1, [.v .nilFunc]⟩) (.n .e (some ⟨.func, 1, [.v .nilFunc]⟩) .e))) (some ⟨.slice 58, 1, [.v (.slice none 0 0)]⟩) (.n (.n (.n .e (some ⟨.func, 1, [.v .nilFunc]⟩) .e) (some ⟨.func, 1, [.v .nilFunc]⟩) (.n .e (some ⟨.int .i64, 1, [.v (.int .i64 0)]⟩) .e)) (some ⟨.map 3 370, 1, [.v (.map none)]⟩) (.n (.n .e (some ⟨.struct [(0, 3), (1, 3), (2, 40)], 3, [.v (.int .i64 0), .v (.int .i64 0), .v (.slice none 0 0)]⟩) .e) (some ⟨.slice 40, 1, [.v (.slice none 0 0)]⟩) (.n .e (some ⟨.int .i32, 1, [.v (.int .i32 0)]⟩) .e))))) (some ⟨.string, 1, [.v (.string ⟨#[]⟩)]⟩) (.n (.n (.n (.n (.n .e (some ⟨.slice 270, 1, [.v (.slice none 0 0)]⟩) .e) (some ⟨.func, 1, [.v .nilFunc]⟩) (.n .e (some ⟨.func, 1, [.v .nilFunc]⟩) .e)) (some ⟨.struct [(0, 3), (1, 26), (2, 36)], 3, [.v (.int .i64 0), .v (.int .u64 0), .v (.slice none 0 0)]⟩) (.n (.n .e (some ⟨.func, 1, [.v .nilFunc]⟩) .e) (some ⟨.func, 1, [.v .nilFunc]⟩) (.n .e (some ⟨.func, 1, [.v .nilFunc]⟩) .e))) (some ⟨.func, 1, [.v .nilFunc]⟩) (.n (.n (.n .e (some ⟨.func, 1, [.v .nilFunc]⟩) .e) (some ⟨.func, 1, [.v .nilFunc]⟩) (.n .e (some ⟨.func, 1, [.v .nilFunc]⟩) .e)) (some ⟨.ptr 92, 1, [.v (.pointer none)]⟩) (.n (.n .e (some ⟨.func, 1, [.v .nilFunc]⟩) .e) (some ⟨.func, 1, [.v .nilFunc]⟩) (.n .e (some ⟨.array 0 16, 0, []⟩) .e)))) (some ⟨.struct [(0, 3), (1, 3), (2, 3), (3, 26)], 4, [.v (.int .i64 0), .v (.int .i64 0), .v (.int .i64 0), .v (.int .u64 0)]⟩) (.n (.n (.n .e (some ⟨.func, 1, [.v .nilFunc]⟩) (.n .e (some ⟨.func, 1, [.v .nilFunc]⟩) .e)) (some ⟨.struct [(0, 4), (1, 46), (23, 88), (94, 3), (95, 89), (96, 90)], 97, [.v (.bool false), .v (.int .i64 0), .v (.string ⟨#[]⟩), .v (.string ⟨#[]⟩), .v (.slice none 0 0), .v (.int .i64 0), .v (.int .i64 0), .v (.int .i64 0), .v (.int .u64 0), .v (.slice none 0 0), .v (.slice none 0 0), .v (.int .i64 0), .v (.int .i64 0), .v (.int .i64 0), .v (.int .i64 0), .v (.int .i64 0), .v (.int .i64 0), .v (.int .i64 0), .v (.string ⟨#[]⟩), .v (.int .i64 0), .v (.int .i64 0), .v (.int .i64 0), .v (.slice none 0 0), .v (.int .i64 0), .v (.int .i64 0), .v (.bool false), .v (.slice none 0 0), .v (.int .i64 0), .v (.int .i64 0), .v (.int .i64 0), .v (.int .i64 0), .v (.int .u64 0), .v (.int .i64 0), .v (.int .i64 0), .v (.bool false), .v (.int .i64 0), .v (.int .i64 0), .v (.int .u64 0), .v (.slice none 0 0), .v (.bool false), .v (.int .i64 0), .v (.int .u64 0), .v (.slice none 0 0), .v (.int .i64 0), .v (.int .i64 0), .v (.slice none 0 0), .v (.bool false), .v (.int .i64 0), .v (.int .i64 0), .v (.int .i64 0), .v (.slice none 0 0), .v (.bool false), .v (.int .i64 0), .v (.int .i64 0), .v (.int .i64 0), .v (.slice none 0 0), .v (.bool false), .v (.int .i64 0), .v (.int .i64 0), .v (.int .i64 0), .v (.int .u64 0), .v (.int .i64 0), .v (.int .i64 0), .v (.bool false), .v (.int .i64 0), .v (.int .i64 0), .v (.int .u64 0), .v (.slice none 0 0), .v (.bool false), .v (.int .i64 0), .v (.int .u64 0), .v (.slice none 0 0), .v (.int .i64 0), .v (.int .i64 0), .v (.slice none 0 0), .v (.bool false), .v (.int .i64 0), .v (.int .i64 0), .v (.int .i64 0), .v (.slice none 0 0), .v (.bool false), .v (.int .i64 0), .v (.int .i64 0), .v (.int .i64 0), .v (.slice none 0 0), .v (.bool false), .v (.int .i64 0), .v (.int .i64 0), .v (.int .i64 0), .v (.int .i64 0), .v (.int .i64 0), .v (.int .i64 0), .v (.slice none 0 0), .v (.bool false), .v (.int .i64 0), .v (.slice none 0 0), .v (.slice none 0 0)]⟩) (.n (.n .e (some ⟨.func, 1, [.v .nilFunc]⟩) .e) (some ⟨.func, 1, [.v .nilFunc]⟩) (.n .e (some ⟨.func, 1, [.v .nilFunc]⟩) .e))) (some ⟨.ptr 102, 1, [.v (.pointer none)]⟩) (.n (.n (.n .e (some ⟨.func, 1, [.v .nilFunc]⟩) .e) none (.n .e (some ⟨.func, 1, [.v .nilFunc]⟩) .e)) none (.n (.n .e (some ⟨.func, 1, [.v .nilFunc]⟩) .e) (some ⟨.func, 1, [.v .nilFunc]⟩) .e)))))) (some ⟨.func, 1, [.v .nilFunc]⟩) (.n (.n (.n (.n (.n (.n (.n .e (some ⟨.func, 1, [.v .nilFunc]⟩) .e) (some ⟨.struct [(0, 4), (1, 3), (2, 35)], 3, [.v (.bool false), .v (.int .i64 0), .v (.slice none 0 0)]⟩) (.n .e (some ⟨.func, 1, [.v .nilFunc]⟩) .e)) (some ⟨.slice 106, 1, [.v (.slice none 0 0)]⟩) (.n (.n .e (some ⟨.func, 1, [.v .nilFunc]⟩) .e) (some ⟨.func, 1, [.v .nilFunc]⟩) (.n .e (some ⟨.func, 1, [.v .nilFunc]⟩) .e))) (some ⟨.slice 32, 1, [.v (.slice none 0 0)]⟩) (.n (.n (.n .e (some ⟨.func, 1, [.v .nilFunc]⟩) .e) (some ⟨.func, 1, [.v .nilFunc]⟩) (.n .e (some ⟨.map 9 4, 1, [.v (.map none)]⟩) .e)) (some ⟨.func, 1, [.v .nilFunc]⟩) (.n (.n .e (some ⟨.func, 1, [.v .nilFunc]⟩) .e) (some ⟨.func, 1, [.v .nilFunc]⟩) .e))) (some ⟨.ptr 501, 1, [.v (.pointer none)]⟩) (.n (.n (.n (.n .e (some ⟨.func, 1, [.v .nilFunc]⟩) .e) (some ⟨.func, 1, [.v .nilFunc]⟩) (.n .e (some ⟨.func, 1, [.v .nilFunc]⟩) .e)) (some ⟨.struct [(0, 3), (1, 3), (2, 3), (3, 80), (4, 4)], 5, [.v (.int .i64 0), .v (.int .i64 0), .v (.int .i64 0), .v (.slice none 0 0), .v (.bool false)]⟩) (.n (.n .e (some ⟨.func, 1, [.v .nilFunc]⟩) .e) (some ⟨.func, 1, [.v .nilFunc]⟩) (.n .e (some ⟨.int .u64, 1, [.v (.int .u64 0)]⟩) .e))) (some ⟨.func, 1, [.v .nilFunc]⟩) (.n (.n (.n .e (some ⟨.func, 1, [.v .nilFunc]⟩) .e) (some ⟨.func, 1, [.v .nilFunc]⟩) (.n .e (some ⟨.func, 1, [.v .nilFunc]⟩) .e)) (some ⟨.func, 1, [.v .nilFunc]⟩) (.n (.n .e (some ⟨.func, 1, [.v .nilFunc]⟩) .e) (some ⟨.func, 1, [.v .nilFunc]⟩) (.n .e (some ⟨.ptr 5, 1, [.v (.pointer none)]⟩) .e))))) (some ⟨.string, 1, [.v (.string ⟨#[]⟩)]⟩) (.n (.n (.n (.n .e (some ⟨.func, 1, [.v .nilFunc]⟩) .e) (some ⟨.struct [(0, 3), (1, 3), (2, 26), (3, 36), (4, 4)], 5, [.v (.int .i64 0), .v (.int .i64 0), .v (.int .u64 0), .v (.slice none 0 0), .v (.bool false)]⟩) (.n (.n .e (some ⟨.func, 1, [.v .nilFunc]⟩) .e) (some ⟨.func, 1, [.v .nilFunc]⟩) (.n .e (some ⟨.func, 1, [.v .nilFunc]⟩) .e))) (some ⟨.struct [(0, 34), (1, 3), (2, 3), (3, 3), (4, 35), (5, 39), (11, 40)], 12, [.v (.int .i64 0), .v (.int .i64 0), .v (.int .i64 0), .v (.int .i64 0), .v (.slice none 0 0), .v (.int .i64 0), .v (.int .i64 0), .v (.string ⟨#[]⟩), .v (.slice none 0 0), .v (.slice none 0 0), .v (.bool false), .v (.slice none 0 0)]⟩) (.n (.n (.n .e (some ⟨.func, 1, [.v .nilFunc]⟩) .e) none (.n .e (some ⟨.func, 1, [.v .nilFunc]⟩) .e)) (some ⟨.struct [(0, 3), (1, 46), (23, 3), (24, 3), (25, 3), (26, 42)], 38, [.v (.int .i64 0), .v (.int .i64 0), .v (.string ⟨#[]⟩), .v (.string ⟨#[]⟩), .v (.slice none 0 0), .v (.int .i64 0), .v (.int .i64 0), .v (.int .i64 0), .v (.int .u64 0), .v (.slice none 0 0), .v (.slice none 0 0), .v (.int .i64 0), .v (.int .i64 0), .v (.int .i64 0), .v (.int .i64 0), .v (.int .i64 0), .v (.int .i64 0), .v (.int .i64 0), .v (.string ⟨#[]⟩), .v (.int .i64 0), .v (.int .i64 0), .v (.int .i64 0), .v (.slice none 0 0), .v (.int .i64 0), .v (.int .i64 0), .v (.int .i64 0), .v (.int .i64 0), .v (.int .i64 0), .v (.int .i64 0), .v (.int .i64 0), .v (.slice none 0 0), .v (.int .i64 0), .v (.int .i64 0), .v (.string ⟨#[]⟩), .v (.slice none 0 0), .v (.slice none 0 0), .v (.bool false), .v (.slice none 0 0)]⟩) (.n (.n .e (some ⟨.struct [(0, 40), (1, 4)], 2, [.v (.slice none 0 0), .v (.bool false)]⟩) .e) (some ⟨.func, 1, [.v .nilFunc]⟩) (.n .e (some ⟨.struct [(0, 17), (1, 17), (2, 17), (3, 9)], 4, [.v (.pointer none), .v (.pointer none), .v (.pointer none), .v (.string ⟨#[]⟩)]⟩) .e)))) (some ⟨.struct [(0, 3), (1, 3), (2, 3), (3, 3), (4, 3), (5, 3), (6, 3)], 7, [.v (.int .i64 0), .v (.int .i64 0), .v (.int .i64 0), .v (.int .i64 0), .v (.int .i64 0), .v (.int .i64 0), .v (.int .i64 0)]⟩) (.n (.n (.n (.n .e (some ⟨.func, 1, [.v .nilFunc]⟩) .e) (some ⟨.struct [(0, 4), (1, 3), (2, 9), (3, 3)], 4, [.v (.bool false), .v (.int .i64 0), .v (.string ⟨#[]⟩), .v (.int .i64 0)]⟩) (.n .e (some ⟨.func, 1, [.v .nilFunc]⟩) .e)) (some ⟨.slice 130, 1, [.v (.slice none 0 0)]⟩) (.n (.n .e (some ⟨.struct [(0, 40), (1, 4)], 2, [.v (.slice none 0 0), .v (.bool false)]⟩) .e) (some ⟨.func, 1, [.v .nilFunc]⟩) (.n .e (some ⟨.func, 1, [.v .nilFunc]⟩) .e))) (some ⟨.struct [(0, 3), (1, 3), (2, 46)], 24, [.v (.int .i64 0), .v (.int .i64 0), .v (.int .i64 0), .v (.string ⟨#[]⟩), .v (.string ⟨#[]⟩), .v (.slice none 0 0), .v (.int .i64 0), .v (.int .i64 0), .v (.int .i64 0), .v (.int .u64 0), .v (.slice none 0 0), .v (.slice none 0 0), .v (.int .i64 0), .v (.int .i64 0), .v (.int .i64 0), .v (.int .i64 0), .v (.int .i64 0), .v (.int .i64 0), .v (.int .i64 0), .v (.string ⟨#[]⟩), .v (.int .i64 0), .v (.int .i64 0), .v (.int .i64 0), .v (.slice none 0 0)]⟩) (.n (.n (.n .e (some ⟨.func, 1, [.v .nilFunc]⟩) .e) (some ⟨.func, 1, [.v .nilFunc]⟩) (.n .e (some ⟨.func, 1, [.v .nilFunc]⟩) .e)) (some ⟨.func, 1, [.v .nilFunc]⟩) (.n (.n .e (some ⟨.func, 1, [.v .nilFunc]⟩) .e) (some ⟨.func, 1, [.v .nilFunc]⟩) .e))))) (some ⟨.int .u8, 1, [.v (.int .u8 0)]⟩) (.n (.n (.n (.n (.n (.n .e (some ⟨.func, 1, [.v .nilFunc]⟩) .e) (some ⟨.func, 1, [.v .nilFunc]⟩) (.n .e (some ⟨.func, 1, [.v .nilFunc]⟩) .e)) (some ⟨.func, 1, [.v .nilFunc]⟩) (.n (.n .e (some ⟨.func, 1, [.v .nilFunc]⟩) .e) none (.n .e (some ⟨.func, 1, [.v .nilFunc]⟩) .e))) (some ⟨.slice 144, 1, [.v (.slice none 0 0)]⟩) (.n (.n (.n .e (some ⟨.func, 1, [.v .nilFunc]⟩) .e) (some ⟨.func, 1, [.v .nilFunc]⟩) (.n .e (some ⟨.func, 1, [.v .nilFunc]⟩) .e)) (some ⟨.struct [(0, 25), (7, 3), (8, 98), (9, 3), (10, 99), (11, 100), (12, 95)], 13, [.v (.int .i64 0), .v (.int .i64 0), .v (.int .i64 0), .v (.int .i64 0), .v (.int .i64 0), .v (.int .i64 0), .v (.int .i64 0), .v (.int .i64 0), .v (.map none), .v (.int .i64 0), .v (.slice none 0 0), .v (.slice none 0 0), .v (.pointer none)]⟩) (.n (.n .e (some ⟨.struct [(0, 40), (1, 4)], 2, [.v (.slice none 0 0), .v (.bool false)]⟩) .e) (some ⟨.func, 1, [.v .nilFunc]⟩) (.n .e (some ⟨.func, 1, [.v .nilFunc]⟩) .e)))) (some ⟨.int .i32, 1, [.v (.int .i32 0)]⟩) (.n (.n (.n (.n .e (some ⟨.func, 1, [.v .nilFunc]⟩) .e) (some ⟨.func, 1, [.v .nilFunc]⟩) (.n .e (some ⟨.func, 1, [.v .nilFunc]⟩) .e)) (some ⟨.struct [(0, 3), (1, 3)], 2, [.v (.int .i64 0), .v (.int .i64 0)]⟩) (.n (.n .e (some ⟨.array 3 3, 3, [.v (.int .i64 0), .v (.int .i64 0), .v (.int .i64 0)]⟩) .e) (some ⟨.func, 1, [.v .nilFunc]⟩) (.n .e (some ⟨.func, 1, [.v .nilFunc]⟩) .e))) (some ⟨.func, 1, [.v .nilFunc]⟩) (.n (.n (.n .e (some ⟨.func, 1, [.v .nilFunc]⟩) .e) (some ⟨.func, 1, [.v .nilFunc]⟩) (.n .e (some ⟨.func, 1, [.v .nilFunc]⟩) .e)) (some ⟨.struct [(0, 3), (1, 115)], 2, [.v (.int .i64 0), .v (.map none)]⟩) (.n (.n .e (some ⟨.func, 1, [.v .nilFunc]⟩) .e) (some ⟨.func, 1, [.v .nilFunc]⟩) (.n .e (some ⟨.struct [(0, 12), (1, 12), (2, 339), (3, 494), (4, 5), (5, 5), (6, 495), (7, 496), (8, 497), (9, 498), (10, 499)], 11, [.v (.int .u64 0), .v (.int .u64 0), .v (.int .u32 0), .v (.int .u8 0), .v (.int .u8 0), .v (.int .u8 0), .v (.int .u8 0), .v .nilFunc, .v (.pointer none), .v (.int .i32 0), .v (.int .i32 0)]⟩) .e))))) (some ⟨.struct [(0, 9), (1, 12)], 2, [.v (.string ⟨#[]⟩), .v (.int .u64 0)]⟩) (.n (.n (.n (.n (.n .e (some ⟨.struct [(0, 3), (1, 239)], 5, [.v (.int .i64 0), .v (.int .i64 0), .v (.int .i64 0), .v (.int .i64 0), .v (.slice none 0 0)]⟩) .e) (some ⟨.func, 1, [.v .nilFunc]⟩) (.n .e (some ⟨.func, 1, [.v .nilFunc]⟩) .e)) (some ⟨.struct [(0, 3), (1, 3), (2, 37), (3, 4)], 4, [.v (.int .i64 0), .v (.int .i64 0), .v (.slice none 0 0), .v (.bool false)]⟩) (.n (.n .e (some ⟨.func, 1, [.v .nilFunc]⟩) .e) (some ⟨.ptr 153, 1, [.v (.pointer none)]⟩) (.n .e (some ⟨.func, 1, [.v .nilFunc]⟩) .e))) (some ⟨.struct [(0, 3), (1, 9), (2, 9), (3, 35), (4, 28), (8, 44), (9, 40), (10, 3), (11, 3), (12, 3), (13, 3), (14, 3), (15, 3), (16, 32), (21, 40)], 22, [.v (.int .i64 0), .v (.string ⟨#[]⟩), .v (.string ⟨#[]⟩), .v (.slice none 0 0), .v (.int .i64 0), .v (.int .i64 0), .v (.int .i64 0), .v (.int .u64 0), .v (.slice none 0 0), .v (.slice none 0 0), .v (.int .i64 0), .v (.int .i64 0), .v (.int .i64 0), .v (.int .i64 0), .v (.int .i64 0), .v (.int .i64 0), .v (.int .i64 0), .v (.string ⟨#[]⟩), .v (.int .i64 0), .v (.int .i64 0), .v (.int .i64 0), .v (.slice none 0 0)]⟩) (.n (.n (.n .e (some ⟨.func, 1, [.v .nilFunc]⟩) .e) (some ⟨.func, 1, [.v .nilFunc]⟩) (.n .e (some ⟨.func, 1, [.v .nilFunc]⟩) .e)) (some ⟨.ptr 106, 1, [.v (.pointer none)]⟩) (.n (.n .e (some ⟨.func, 1, [.v .nilFunc]⟩) .e) (some ⟨.func, 1, [.v .nilFunc]⟩) (.n .e (some ⟨.struct [(0, 491)], 0, []⟩) .e)))) (some ⟨.int .u64, 1, [.v (.int .u64 0)]⟩) (.n (.n (.n (.n .e (some ⟨.func, 1, [.v .nilFunc]⟩) .e) (some ⟨.struct [(0, 3), (1, 3)], 2, [.v (.int .i64 0), .v (.int .i64 0)]⟩) (.n .e (some ⟨.func, 1, [.v .nilFunc]⟩) .e)) (some ⟨.func, 1, [.v .nilFunc]⟩) (.n (.n .e (some ⟨.func, 1, [.v .nilFunc]⟩) .e) (some ⟨.func, 1, [.v .nilFunc]⟩) (.n .e (some ⟨.func, 1, [.v .nilFunc]⟩) .e))) (some ⟨.func, 1, [.v .nilFunc]⟩) (.n (.n (.n .e (some ⟨.func, 1, [.v .nilFunc]⟩) .e) (some ⟨.slice 279, 1, [.v (.slice none 0 0)]⟩) .e) (some ⟨.func, 1, [.v .nilFunc]⟩) (.n (.n .e (some ⟨.func, 1, [.v .nilFunc]⟩) .e) (some ⟨.func, 1, [.v .nilFunc]⟩) .e))))))) none (.n (.n (.n (.n (.n (.n (.n (.n .e (some ⟨.func, 1, [.v .nilFunc]⟩) .e) (some ⟨.func, 1, [.v .nilFunc]⟩) (.n .e (some ⟨.func, 1, [.v .nilFunc]⟩) .e)) (some ⟨.func, 1, [.v .nilFunc]⟩) (.n (.n .e (some ⟨.func, 1, [.v .nilFunc]⟩) .e) (some ⟨.struct [(0, 3), (1, 189), (2, 99), (3, 100), (4, 190)], 5, [.v (.int .i64 0), .v (.slice none 0 0), .v (.slice none 0 0), .v (.slice none 0 0), .v (.slice none 0 0)]⟩) .e)) (some ⟨.struct [(0, 3), (1, 9), (2, 3), (3, 3), (4, 3)], 5, [.v (.int .i64 0), .v (.string ⟨#[]⟩), .v (.int .i64 0), .v (.int .i64 0), .v (.int .i64 0)]⟩) (.n (.n (.n .e (some ⟨.func, 1, [.v .nilFunc]⟩) .e) none (.n .e (some ⟨.ptr 239, 1, [.v (.pointer none)]⟩) .e)) none (.n (.n .e (some ⟨.struct [(0, 40), (1, 4)], 2, [.v (.slice none 0 0), .v (.bool false)]⟩) .e) (some ⟨.func, 1, [.v .nilFunc]⟩) (.n .e (some ⟨.ptr 465, 1, [.v (.pointer none)]⟩) .e)))) (some ⟨.ptr 493, 1, [.v (.pointer none)]⟩) (.n (.n (.n (.n .e (some ⟨.func, 1, [.v .nilFunc]⟩) .e) (some ⟨.struct [(0, 9), (1, 3), (2, 3)], 3, [.v (.string ⟨#[]⟩), .v (.int .i64 0), .v (.int .i64 0)]⟩) (.n .e (some ⟨.func, 1, [.v .nilFunc]⟩) .e)) (some ⟨.slice 35, 1, [.v (.slice none 0 0)]⟩) (.n (.n .e (some ⟨.ptr 82, 1, [.v (.pointer none)]⟩) .e) (some ⟨.func, 1, [.v .nilFunc]⟩) (.n .e (some ⟨.func, 1, [.v .nilFunc]⟩) .e))) (some ⟨.struct [(0, 9), (1, 3)], 2, [.v (.string ⟨#[]⟩), .v (.int .i64 0)]⟩) (.n (.n (.n .e (some ⟨.func, 1, [.v .nilFunc]⟩) .e) (some ⟨.func, 1, [.v .nilFunc]⟩) (.n .e (some ⟨.func, 1, [.v .nilFunc]⟩) .e)) (some ⟨.func, 1, [.v .nilFunc]⟩) (.n (.n .e (some ⟨.func, 1, [.v .nilFunc]⟩) .e) none (.n .e (some ⟨.func, 1, [.v .nilFunc]⟩) .e))))) (some ⟨.struct [(0, 2), (1, 3), (2, 4), (3, 6)], 4, [.v (.int .i64 0), .v (.int .i64 0), .v (.bool false), .v (.int .u8 0)]⟩) (.n (.n (.n (.n (.n .e (some ⟨.slice 239, 1, [.v (.slice none 0 0)]⟩) .e) none (.n .e (some ⟨.func, 1, [.v .nilFunc]⟩) .e)) (some ⟨.struct [(0, 3), (1, 3), (2, 26), (3, 36), (4, 4)], 5, [.v (.int .i64 0), .v (.int .i64 0), .v (.int .u64 0), .v (.slice none 0 0), .v (.bool false)]⟩) (.n (.n .e (some ⟨.func, 1, [.v .nilFunc]⟩) .e) (some ⟨.func, 1, [.v .nilFunc]⟩) (.n .e (some ⟨.func, 1, [.v .nilFunc]⟩) .e))) (some ⟨.slice 5, 1, [.v (.slice none 0 0)]⟩) (.n (.n (.n .e (some ⟨.func, 1, [.v .nilFunc]⟩) .e) (some ⟨.func, 1, [.v .nilFunc]⟩) (.n .e (some ⟨.func, 1, [.v .nilFunc]⟩) .e)) (some ⟨.func, 1, [.v .nilFunc]⟩) (.n (.n .e (some ⟨.struct [(0, 40), (1, 4)], 2, [.v (.slice none 0 0), .v (.bool false)]⟩) .e) none (.n .e (some ⟨.ptr 503, 1, [.v (.pointer none)]⟩) .e)))) (some ⟨.struct [(0, 3), (1, 3), (2, 3), (3, 3), (4, 3), (5, 3), (6, 3)], 7, [.v (.int .i64 0), .v (.int .i64 0), .v (.int .i64 0), .v (.int .i64 0), .v (.int .i64 0), .v (.int .i64 0), .v (.int .i64 0)]⟩) (.n (.n (.n .e (some ⟨.struct [(0, 4), (1, 3), (2, 9), (3, 3)], 4, [.v (.bool false), .v (.int .i64 0), .v (.string ⟨#[]⟩), .v (.int .i64 0)]⟩) (.n .e (some ⟨.func, 1, [.v .nilFunc]⟩) .e)) (some ⟨.struct [(0, 3), (1, 3), (2, 4), (3, 36), (4, 3), (5, 84), (34, 84), (63, 3), (64, 3), (65, 3), (66, 3), (67, 86), (69, 40), (70, 4)], 71, [.v (.int .i64 0), .v (.int .i64 0), .v (.bool false), .v (.slice none 0 0), .v (.int .i64 0), .v (.int .i64 0), .v (.int .i64 0), .v (.int .i64 0), .v (.int .u64 0), .v (.int .i64 0), .v (.int .i64 0), .v (.bool false), .v (.int .i64 0), .v (.int .i64 0), .v (.int .u64 0), .v (.slice none 0 0), .v (.bool false), .v (.int .i64 0), .v (.int .u64 0), .v (.slice none 0 0), .v (.int .i64 0), .v (.int .i64 0), .v (.slice none 0 0), .v (.bool false), .v (.int .i64 0), .v (.int .i64 0), .v (.int .i64 0), .v (.slice none 0 0), .v (.bool false), .v (.int .i64 0), .v (.int .i64 0), .v (.int .i64 0), .v (.slice none 0 0), .v (.bool false), .v (.int .i64 0), .v (.int .i64 0), .v (.int .i64 0), .v (.int .u64 0), .v (.int .i64 0), .v (.int .i64 0), .v (.bool false), .v (.int .i64 0), .v (.int .i64 0), .v (.int .u64 0), .v (.slice none 0 0), .v (.bool false), .v (.int .i64 0), .v (.int .u64 0), .v (.slice none 0 0), .v (.int .i64 0), .v (.int .i64 0), .v (.slice none 0 0), .v (.bool false), .v (.int .i64 0), .v (.int .i64 0), .v (.int .i64 0), .v (.slice none 0 0), .v (.bool false), .v (.int .i64 0), .v (.int .i64 0), .v (.int .i64 0), .v (.slice none 0 0), .v (.bool false), .v (.int .i64 0), .v (.int .i64 0), .v (.int .i64 0), .v (.int .i64 0), .v (.int .i64 0), .v (.int .i64 0), .v (.slice none 0 0), .v (.bool false)]⟩) (.n (.n .e (some ⟨.struct [(0, 40), (1, 4)], 2, [.v (.slice none 0 0), .v (.bool false)]⟩) .e) (some ⟨.func, 1, [.v .nilFunc]⟩) (.n .e (some ⟨.func, 1, [.v .nilFunc]⟩) .e))) (some ⟨.func, 1, [.v .nilFunc]⟩) (.n (.n (.n .e (some ⟨.slice 4, 1, [.v (.slice none 0 0)]⟩) .e) none (.n .e (some ⟨.func, 1, [.v .nilFunc]⟩) .e)) (some ⟨.func, 1, [.v .nilFunc]⟩) (.n (.n .e (some ⟨.func, 1, [.v .nilFunc]⟩) .e) (some ⟨.func, 1, [.v .nilFunc]⟩) .e))))) (some ⟨.bool, 1, [.v (.bool false)]⟩) (.n (.n (.n (.n (.n (.n .e (some ⟨.func, 1, [.v .nilFunc]⟩) .e) (some ⟨.func, 1, [.v .nilFunc]⟩) (.n .e (some ⟨.func, 1, [.v .nilFunc]⟩) .e)) (some ⟨.func, 1, [.v .nilFunc]⟩) (.n .e (some ⟨.func, 1, [.v .nilFunc]⟩) (.n .e (some ⟨.func, 1, [.v .nilFunc]⟩) .e))) (some ⟨.slice 3, 1, [.v (.slice none 0 0)]⟩) (.n (.n (.n .e (some ⟨.func, 1, [.v .nilFunc]⟩) .e) (some ⟨.func, 1, [.v .nilFunc]⟩) (.n .e (some ⟨.func, 1, [.v .nilFunc]⟩) .e)) (some ⟨.slice 158, 1, [.v (.slice none 0 0)]⟩) (.n (.n .e (some ⟨.struct [(0, 40), (1, 4)], 2, [.v (.slice none 0 0), .v (.bool false)]⟩) .e) none (.n .e (some ⟨.func, 1, [.v .nilFunc]⟩) .e)))) none (.n (.n (.n (.n .e (some ⟨.func, 1, [.v .nilFunc]⟩) .e) (some ⟨.func, 1, [.v .nilFunc]⟩) (.n .e (some ⟨.func, 1, [.v .nilFunc]⟩) .e)) (some ⟨.struct [(0, 28), (4, 71), (7, 73), (12, 75), (15, 77), (19, 79), (24, 82)], 29, [.v (.int .i64 0), .v (.int .i64 0), .v (.int .i64 0), .v (.int .u64 0), .v (.int .i64 0), .v (.int .i64 0), .v (.bool false), .v (.int .i64 0), .v (.int .i64 0), .v (.int .u64 0), .v (.slice none 0 0), .v (.bool false), .v (.int .i64 0), .v (.int .u64 0), .v (.slice none 0 0), .v (.int .i64 0), .v (.int .i64 0), .v (.slice none 0 0), .v (.bool false), .v (.int .i64 0), .v (.int .i64 0), .v (.int .i64 0), .v (.slice none 0 0), .v (.bool false), .v (.int .i64 0), .v (.int .i64 0), .v (.int .i64 0), .v (.slice none 0 0), .v (.bool false)]⟩) (.n (.n .e (some ⟨.func, 1, [.v .nilFunc]⟩) .e) none (.n .e (some ⟨.ptr 3, 1, [.v (.pointer none)]⟩) .e))) none (.n (.n (.n .e (some ⟨.func, 1, [.v .nilFunc]⟩) .e) none .e) (some ⟨.struct [(0, 3), (1, 115)], 2, [.v (.int .i64 0), .v (.map none)]⟩) (.n (.n .e (some ⟨.struct [(0, 3), (1, 3), (2, 40)], 3, [.v (.int .i64 0), .v (.int .i64 0), .v (.slice none 0 0)]⟩) .e) (some ⟨.func, 1, [.v .nilFunc]⟩) (.n .e (some ⟨.struct [(0, 12), (1, 12), (2, 339), (3, 494), (4, 5), (5, 5), (6, 495), (7, 496), (8, 497), (9, 498), (10, 499)], 11, [.v (.int .u64 0), .v (.int .u64 0), .v (.int .u32 0), .v (.int .u8 0), .v (.int .u8 0), .v (.int .u8 0), .v (.int .u8 0), .v .nilFunc, .v (.pointer none), .v (.int .i32 0), .v (.int .i32 0)]⟩) .e))))) (some ⟨.int .u64, 1, [.v (.int .u64 0)]⟩) (.n (.n (.n (.n (.n .e (some ⟨.func, 1, [.v .nilFunc]⟩) .e) (some ⟨.func, 1, [.v .nilFunc]⟩) .e) (some ⟨.struct [(0, 3), (1, 3), (2, 37), (3, 4)], 4, [.v (.int .i64 0), .v (.int .i64 0), .v (.slice none 0 0), .v (.bool false)]⟩) (.n (.n .e (some ⟨.func, 1, [.v .nilFunc]⟩) .e) (some ⟨.func, 1, [.v .nilFunc]⟩) (.n .e (some ⟨.func, 1, [.v .nilFunc]⟩) .e))) (some ⟨.slice 48, 1, [.v (.slice none 0 0)]⟩) (.n (.n .e (some ⟨.func, 1, [.v .nilFunc]⟩) (.n .e (some ⟨.func, 1, [.v .nilFunc]⟩) .e)) (some ⟨.func, 1, [.v .nilFunc]⟩) (.n (.n .e (some ⟨.complex .f64, 1, [.v (.complex .f64 0 0)]⟩) .e) none (.n .e (some ⟨.struct [(0, 491)], 0, []⟩) .e)))) (some ⟨.struct [(0, 3), (1, 3), (2, 3), (3, 26)], 4, [.v (.int .i64 0), .v (.int .i64 0), .v (.int .i64 0), .v (.int .u64 0)]⟩) (.n (.n (.n (.n .e (some ⟨.func, 1, [.v .nilFunc]⟩) .e) (some ⟨.func, 1, [.v .nilFunc]⟩) (.n .e (some ⟨.func, 1, [.v .nilFunc]⟩) .e)) (some ⟨.struct [(0, 4), (1, 46), (23, 88), (94, 3), (95, 89), (96, 90)], 97, [.v (.bool false), .v (.int .i64 0), .v (.string ⟨#[]⟩), .v (.string ⟨#[]⟩), .v (.slice none 0 0), .v (.int .i64 0), .v (.int .i64 0), .v (.int .i64 0), .v (.int .u64 0), .v (.slice none 0 0), .v (.slice none 0 0), .v (.int .i64 0), .v (.int .i64 0), .v (.int .i64 0), .v (.int .i64 0), .v (.int .i64 0), .v (.int .i64 0), .v (.int .i64 0), .v (.string ⟨#[]⟩), .v (.int .i64 0), .v (.int .i64 0), .v (.int .i64 0), .v (.slice none 0 0), .v (.int .i64 0), .v (.int .i64 0), .v (.bool false), .v (.slice none 0 0), .v (.int .i64 0), .v (.int .i64 0), .v (.int .i64 0), .v (.int .i64 0), .v (.int .u64 0), .v (.int .i64 0), .v (.int .i64 0), .v (.bool false), .v (.int .i64 0), .v (.int .i64 0), .v (.int .u64 0), .v (.slice none 0 0), .v (.bool false), .v (.int .i64 0), .v (.int .u64 0), .v (.slice none 0 0), .v (.int .i64 0), .v (.int .i64 0), .v (.slice none 0 0), .v (.bool false), .v (.int .i64 0), .v (.int .i64 0), .v (.int .i64 0), .v (.slice none 0 0), .v (.bool false), .v (.int .i64 0), .v (.int .i64 0), .v (.int .i64 0), .v (.slice none 0 0), .v (.bool false), .v (.int .i64 0), .v (.int .i64 0), .v (.int .i64 0), .v (.int .u64 0), .v (.int .i64 0), .v (.int .i64 0), .v (.bool false), .v (.int .i64 0), .v (.int .i64 0), .v (.int .u64 0), .v (.slice none 0 0), .v (.bool false), .v (.int .i64 0), .v (.int .u64 0), .v (.slice none 0 0), .v (.int .i64 0), .v (.int .i64 0), .v (.slice none 0 0), .v (.bool false), .v (.int .i64 0), .v (.int .i64 0), .v (.int .i64 0), .v (.slice none 0 0), .v (.bool false), .v (.int .i64 0), .v (.int .i64 0), .v (.int .i64 0), .v (.slice none 0 0), .v (.bool false), .v (.int .i64 0), .v (.int .i64 0), .v (.int .i64 0), .v (.int .i64 0), .v (.int .i64 0), .v (.int .i64 0), .v (.slice none 0 0), .v (.bool false), .v (.int .i64 0), .v (.slice none 0 0), .v (.slice none 0 0)]⟩) (.n .e (some ⟨.func, 1, [.v .nilFunc]⟩) (.n .e (some ⟨.func, 1, [.v .nilFunc]⟩) .e))) none (.n (.n (.n .e (some ⟨.func, 1, [.v .nilFunc]⟩) .e) (some ⟨.func, 1, [.v .nilFunc]⟩) .e) (some ⟨.func, 1, [.v .nilFunc]⟩) (.n (.n .e (some ⟨.func, 1, [.v .nilFunc]⟩) .e) (some ⟨.func, 1, [.v .nilFunc]⟩) .e)))))) (some ⟨.int .i64, 1, [.v (.int .i64 0)]⟩) (.n (.n (.n (.n (.n (.n (.n .e (some ⟨.func, 1, [.v .nilFunc]⟩) .e) (some ⟨.struct [(0, 4), (1, 3), (2, 35)], 3, [.v (.bool false), .v (.int .i64 0), .v (.slice none 0 0)]⟩) (.n .e (some ⟨.func, 1, [.v .nilFunc]⟩) .e)) (some ⟨.struct [(0, 25), (7, 59), (8, 62), (9, 65), (10, 3)], 11, [.v (.int .i64 0), .v (.int .i64 0), .v (.int .i64 0), .v (.int .i64 0), .v (.int .i64 0), .v (.int .i64 0), .v (.int .i64 0), .v (.pointer none), .v (.slice none 0 0), .v (.slice none 0 0), .v (.int .i64 0)]⟩) (.n (.n .e (some ⟨.func, 1, [.v .nilFunc]⟩) .e) (some ⟨.struct [(0, 3), (1, 3)], 2, [.v (.int .i64 0), .v (.int .i64 0)]⟩) (.n .e (some ⟨.slice 26, 1, [.v (.slice none 0 0)]⟩) .e))) (some ⟨.int .i64, 1, [.v (.int .i64 0)]⟩) (.n (.n (.n .e (some ⟨.func, 1, [.v .nilFunc]⟩) .e) (some ⟨.func, 1, [.v .nilFunc]⟩) (.n .e (some ⟨.func, 1, [.v .nilFunc]⟩) .e)) (some ⟨.map 3 264, 1, [.v (.map none)]⟩) (.n (.n .e (some ⟨.func, 1, [.v .nilFunc]⟩) .e) none (.n .e (some ⟨.func, 1, [.v .nilFunc]⟩) .e)))) (some ⟨.struct [(0, 17)], 1, [.v (.pointer none)]⟩) (.n (.n (.n (.n .e (some ⟨.struct [(0, 9), (1, 3), (2, 3), (3, 3)], 4, [.v (.string ⟨#[]⟩), .v (.int .i64 0), .v (.int .i64 0), .v (.int .i64 0)]⟩) .e) (some ⟨.array 14 4, 14, [.v (.bool false), .v (.bool false), .v (.bool false), .v (.bool false), .v (.bool false), .v (.bool false), .v (.bool false), .v (.bool false), .v (.bool false), .v (.bool false), .v (.bool false), .v (.bool false), .v (.bool false), .v (.bool false)]⟩) (.n .e (some ⟨.func, 1, [.v .nilFunc]⟩) .e)) (some ⟨.struct [(0, 3), (1, 3), (2, 3), (3, 80), (4, 4)], 5, [.v (.int .i64 0), .v (.int .i64 0), .v (.int .i64 0), .v (.slice none 0 0), .v (.bool false)]⟩) (.n (.n .e (some ⟨.func, 1, [.v .nilFunc]⟩) .e) none (.n .e (some ⟨.func, 1, [.v .nilFunc]⟩) .e))) (some ⟨.func, 1, [.v .nilFunc]⟩) (.n (.n (.n .e (some ⟨.func, 1, [.v .nilFunc]⟩) .e) none (.n .e (some ⟨.func, 1, [.v .nilFunc]⟩) .e)) (some ⟨.func, 1, [.v .nilFunc]⟩) (.n (.n .e (some ⟨.ptr 372, 1, [.v (.pointer none)]⟩) .e) (some ⟨.func, 1, [.v .nilFunc]⟩) (.n .e (some ⟨.int .i32, 1, [.v (.int .i32 0)]⟩) .e))))) (some ⟨.string, 1, [.v (.string ⟨#[]⟩)]⟩) (.n (.n (.n (.n (.n .e (some ⟨.func, 1, [.v .nilFunc]⟩) .e) (some ⟨.func, 1, [.v .nilFunc]⟩) (.n .e (some ⟨.func, 1, [.v .nilFunc]⟩) .e)) (some ⟨.struct [(0, 3), (1, 26), (2, 36)], 3, [.v (.int .i64 0), .v (.int .u64 0), .v (.slice none 0 0)]⟩) (.n (.n .e (some ⟨.ptr 79, 1, [.v (.pointer none)]⟩) .e) (some ⟨.func, 1, [.v .nilFunc]⟩) (.n .e (some ⟨.func, 1, [.v .nilFunc]⟩) .e))) (some ⟨.struct [(0, 34), (1, 3), (2, 3), (3, 3), (4, 35), (5, 39), (11, 40)], 12, [.v (.int .i64 0), .v (.int .i64 0), .v (.int .i64 0), .v (.int .i64 0), .v (.slice none 0 0), .v (.int .i64 0), .v (.int .i64 0), .v (.string ⟨#[]⟩), .v (.slice none 0 0), .v (.slice none 0 0), .v (.bool false), .v (.slice none 0 0)]⟩) (.n (.n (.n .e (some ⟨.func, 1, [.v .nilFunc]⟩) .e) (some ⟨.func, 1, [.v .nilFunc]⟩) (.n .e (some ⟨.func, 1, [.v .nilFunc]⟩) .e)) (some ⟨.struct [(0, 3), (1, 46), (23, 3), (24, 3), (25, 3), (26, 42)], 38, [.v (.int .i64 0), .v (.int .i64 0), .v (.string ⟨#[]⟩), .v (.string ⟨#[]⟩), .v (.slice none 0 0), .v (.int .i64 0), .v (.int .i64 0), .v (.int .i64 0), .v (.int .u64 0), .v (.slice none 0 0), .v (.slice none 0 0), .v (.int .i64 0), .v (.int .i64 0), .v (.int .i64 0), .v (.int .i64 0), .v (.int .i64 0), .v (.int .i64 0), .v (.int .i64 0), .v (.string ⟨#[]⟩), .v (.int .i64 0), .v (.int .i64 0), .v (.int .i64 0), .v (.slice none 0 0), .v (.int .i64 0), .v (.int .i64 0), .v (.int .i64 0), .v (.int .i64 0), .v (.int .i64 0), .v (.int .i64 0), .v (.int .i64 0), .v (.slice none 0 0), .v (.int .i64 0), .v (.int .i64 0), .v (.string ⟨#[]⟩), .v (.slice none 0 0), .v (.slice none 0 0), .v (.bool false), .v (.slice none 0 0)]⟩) (.n (.n .e (some ⟨.func, 1, [.v .nilFunc]⟩) .e) none (.n .e (some ⟨.struct [(0, 17), (1, 17), (2, 17), (3, 9)], 4, [.v (.pointer none), .v (.pointer none), .v (.pointer none), .v (.string ⟨#[]⟩)]⟩) .e)))) (some ⟨.int .u64, 1, [.v (.int .u64 0)]⟩) (.n (.n (.n (.n .e (some ⟨.func, 1, [.v .nilFunc]⟩) .e) (some ⟨.func, 1, [.v .nilFunc]⟩) (.n .e (some ⟨.func, 1, [.v .nilFunc]⟩) .e)) (some ⟨.slice 153, 1, [.v (.slice none 0 0)]⟩) (.n (.n .e (some ⟨.func, 1, [.v .nilFunc]⟩) .e) (some ⟨.func, 1, [.v .nilFunc]⟩) (.n .e (some ⟨.func, 1, [.v .nilFunc]⟩) .e))) (some ⟨.struct [(0, 3), (1, 3), (2, 46)], 24, [.v (.int .i64 0), .v (.int .i64 0), .v (.int .i64 0), .v (.string ⟨#[]⟩), .v (.string ⟨#[]⟩), .v (.slice none 0 0), .v (.int .i64 0), .v (.int .i64 0), .v (.int .i64 0), .v (.int .u64 0), .v (.slice none 0 0), .v (.slice none 0 0), .v (.int .i64 0), .v (.int .i64 0), .v (.int .i64 0), .v (.int .i64 0), .v (.int .i64 0), .v (.int .i64 0), .v (.int .i64 0), .v (.string ⟨#[]⟩), .v (.int .i64 0), .v (.int .i64 0), .v (.int .i64 0), .v (.slice none 0 0)]⟩) (.n (.n (.n .e (some ⟨.func, 1, [.v .nilFunc]⟩) .e) (some ⟨.slice 194, 1, [.v (.slice none 0 0)]⟩) (.n .e (some ⟨.func, 1, [.v .nilFunc]⟩) .e)) (some ⟨.func, 1, [.v .nilFunc]⟩) (.n (.n .e (some ⟨.func, 1, [.v .nilFunc]⟩) .e) (some ⟨.func, 1, [.v .nilFunc]⟩) .e))))) (some ⟨.int .u8, 1, [.v (.int .u8 0)]⟩) (.n (.n (.n (.n (.n (.n .e (some ⟨.func, 1, [.v .nilFunc]⟩) .e) none (.n .e (some ⟨.slice 36, 1, [.v (.slice none 0 0)]⟩) .e)) (some ⟨.struct [(0, 3), (1, 3), (2, 4)], 3, [.v (.int .i64 0), .v (.int .i64 0), .v (.bool false)]⟩) (.n (.n .e (some ⟨.func, 1, [.v .nilFunc]⟩) .e) (some ⟨.func, 1, [.v .nilFunc]⟩) (.n .e (some ⟨.func, 1, [.v .nilFunc]⟩) .e))) (some ⟨.struct [(0, 3), (1, 3), (2, 9), (3, 36), (4, 37), (5, 4)], 6, [.v (.int .i64 0), .v (.int .i64 0), .v (.string ⟨#[]⟩), .v (.slice none 0 0), .v (.slice none 0 0), .v (.bool false)]⟩) (.n (.n (.n .e (some ⟨.func, 1, [.v .nilFunc]⟩) .e) (some ⟨.func, 1, [.v .nilFunc]⟩) .e) (some ⟨.struct [(0, 25), (7, 3), (8, 98), (9, 3), (10, 99), (11, 100), (12, 95)], 13, [.v (.int .i64 0), .v (.int .i64 0), .v (.int .i64 0), .v (.int .i64 0), .v (.int .i64 0), .v (.int .i64 0), .v (.int .i64 0), .v (.int .i64 0), .v (.map none), .v (.int .i64 0), .v (.slice none 0 0), .v (.slice none 0 0), .v (.pointer none)]⟩) (.n (.n .e (some ⟨.func, 1, [.v .nilFunc]⟩) .e) none (.n .e (some ⟨.func, 1, [.v .nilFunc]⟩) .e)))) (some ⟨.ptr 67, 1, [.v (.pointer none)]⟩) (.n (.n (.n (.n .e (some ⟨.struct [(0, 3), (1, 264)], 2, [.v (.int .i64 0), .v (.slice none 0 0)]⟩) .e) (some ⟨.func, 1, [.v .nilFunc]⟩) (.n .e (some ⟨.slice 364, 1, [.v (.slice none 0 0)]⟩) .e)) (some ⟨.struct [(0, 3), (1, 3)], 2, [.v (.int .i64 0), .v (.int .i64 0)]⟩) (.n (.n .e (some ⟨.func, 1, [.v .nilFunc]⟩) .e) (some ⟨.func, 1, [.v .nilFunc]⟩) (.n .e (some ⟨.func, 1, [.v .nilFunc]⟩) .e))) (some ⟨.struct [(0, 34), (1, 4), (2, 42)], 14, [.v (.int .i64 0), .v (.bool false), .v (.int .i64 0), .v (.int .i64 0), .v (.int .i64 0), .v (.int .i64 0), .v (.slice none 0 0), .v (.int .i64 0), .v (.int .i64 0), .v (.string ⟨#[]⟩), .v (.slice none 0 0), .v (.slice none 0 0), .v (.bool false), .v (.slice none 0 0)]⟩) (.n (.n (.n .e (some ⟨.func, 1, [.v .nilFunc]⟩) .e) (some ⟨.func, 1, [.v .nilFunc]⟩) (.n .e (some ⟨.func, 1, [.v .nilFunc]⟩) .e)) (some ⟨.func, 1, [.v .nilFunc]⟩) (.n (.n .e (some ⟨.func, 1, [.v .nilFunc]⟩) .e) none (.n .e (some ⟨.struct [(0, 9)], 1, [.v (.string ⟨#[]⟩)]⟩) .e))))) (some ⟨.struct [(0, 9), (1, 12)], 2, [.v (.string ⟨#[]⟩), .v (.int .u64 0)]⟩) (.n (.n (.n (.n (.n .e (some ⟨.struct [(0, 3), (1, 239)], 5, [.v (.int .i64 0), .v (.int .i64 0), .v (.int .i64 0), .v (.int .i64 0), .v (.slice none 0 0)]⟩) .e) (some ⟨.func, 1, [.v .nilFunc]⟩) (.n .e (some ⟨.func, 1, [.v .nilFunc]⟩) .e)) (some ⟨.struct [(0, 3), (1, 3), (2, 3), (3, 37), (4, 4)], 5, [.v (.int .i64 0), .v (.int .i64 0), .v (.int .i64 0), .v (.slice none 0 0), .v (.bool false)]⟩) (.n (.n .e (some ⟨.func, 1, [.v .nilFunc]⟩) .e) (some ⟨.func, 1, [.v .nilFunc]⟩) (.n .e (some ⟨.func, 1, [.v .nilFunc]⟩) .e))) (some ⟨.struct [(0, 3), (1, 9), (2, 9), (3, 35), (4, 28), (8, 44), (9, 40), (10, 3), (11, 3), (12, 3), (13, 3), (14, 3), (15, 3), (16, 32), (21, 40)], 22, [.v (.int .i64 0), .v (.string ⟨#[]⟩), .v (.string ⟨#[]⟩), .v (.slice none 0 0), .v (.int .i64 0), .v (.int .i64 0), .v (.int .i64 0), .v (.int .u64 0), .v (.slice none 0 0), .v (.slice none 0 0), .v (.int .i64 0), .v (.int .i64 0), .v (.int .i64 0), .v (.int .i64 0), .v (.int .i64 0), .v (.int .i64 0), .v (.int .i64 0), .v (.string ⟨#[]⟩), .v (.int .i64 0), .v (.int .i64 0), .v (.int .i64 0), .v (.slice none 0 0)]⟩) (.n (.n (.n .e (some ⟨.func, 1, [.v .nilFunc]⟩) .e) (some ⟨.func, 1, [.v .nilFunc]⟩) (.n .e (some ⟨.func, 1, [.v .nilFunc]⟩) .e)) (some ⟨.func, 1, [.v .nilFunc]⟩) (.n (.n .e (some ⟨.float .f64, 1, [.v (.float .f64 0)]⟩) .e) (some ⟨.struct [(0, 3), (1, 3), (2, 3), (3, 36)], 4, [.v (.int .i64 0), .v (.int .i64 0), .v (.int .i64 0), .v (.slice none 0 0)]⟩) (.n .e (some ⟨.int .u8, 1, [.v (.int .u8 0)]⟩) .e)))) (some ⟨.slice 28, 1, [.v (.slice none 0 0)]⟩) (.n (.n (.n (.n .e (some ⟨.func, 1, [.v .nilFunc]⟩) .e) (some ⟨.struct [(0, 3), (1, 3)], 2, [.v (.int .i64 0), .v (.int .i64 0)]⟩) (.n .e (some ⟨.func, 1, [.v .nilFunc]⟩) .e)) (some ⟨.func, 1, [.v .nilFunc]⟩) (.n (.n .e (some ⟨.ptr 352, 1, [.v (.pointer none)]⟩) .e) (some ⟨.func, 1, [.v .nilFunc]⟩) (.n .e (some ⟨.func, 1, [.v .nilFunc]⟩) .e))) (some ⟨.slice 92, 1, [.v (.slice none 0 0)]⟩) (.n (.n (.n .e (some ⟨.func, 1, [.v .nilFunc]⟩) .e) (some ⟨.slice 372, 1, [.v (.slice none 0 0)]⟩) (.n .e (some ⟨.func, 1, [.v .nilFunc]⟩) .e)) (some ⟨.func, 1, [.v .nilFunc]⟩) (.n (.n .e (some ⟨.func, 1, [.v .nilFunc]⟩) .e) none .e))))))))
noncomputable def funcsX : Tr FX := (.n (.n (.n (.n (.n (.n (.n (.n (.n .e (some ⟨Tryz.f255, 15868663⟩) .e) (some ⟨Tryz.f127, 1180591621199521382653⟩) .e) (some ⟨Tryz.f63, 1050567⟩) (.n (.n .e (some ⟨Tryz.f319, 1836275⟩) .e) (some ⟨Tryz.f191, 7⟩) .e)) (some ⟨Tryz.f31, 562950087733199⟩) (.n (.n (.n .e (some ⟨Tryz.f287, 7891⟩) .e) (some ⟨Tryz.f159, 309485009821349467279032191⟩) .e) (some ⟨Tryz.f95, 2232775⟩) (.n (.n .e (some ⟨Tryz.f351, 22997644815212700899627017342834150232570911⟩) .e) (some ⟨Tryz.f223, 32212403071⟩) .e))) (some ⟨Tryz.f15, 4398046511111⟩) (.n (.n (.n (.n .e (some ⟨Tryz.f271, 23⟩) .e) (some ⟨Tryz.f143, 67125267⟩) .e) (some ⟨Tryz.f79, 562952111515103⟩) (.n (.n .e (some ⟨Tryz.f335, 66483⟩) .e) (some ⟨Tryz.f207, 41538374868278621316474930901557191⟩) .e)) (some ⟨Tryz.f47, 76167201336607180919⟩) (.n (.n (.n .e (some ⟨Tryz.f303, 1074268103⟩) .e) (some ⟨Tryz.f175, 5⟩) .e) (some ⟨Tryz.f111, 5⟩) (.n (.n .e (some ⟨Tryz.f367, 4159⟩) .e) (some ⟨Tryz.f239, 31⟩) .e)))) (some ⟨Tryz.f7, 4202623⟩) (.n (.n (.n (.n (.n .e (some ⟨Tryz.f263, 19⟩) .e) (some ⟨Tryz.f135, 15206387⟩) .e) (some ⟨Tryz.f71, 16499⟩) (.n (.n .e (some ⟨Tryz.f327, 20829169751433159⟩) .e) (some ⟨Tryz.f199, 4611977337737576479⟩) .e)) (some ⟨Tryz.f39, 16839⟩) (.n (.n (.n .e (some ⟨Tryz.f295, 295147905181504570311⟩) .e) (some ⟨Tryz.f167, 77⟩) .e) (some ⟨Tryz.f103, 16455⟩) (.n (.n .e (some ⟨Tryz.f359, 1055⟩) .e) (some ⟨Tryz.f231, 23⟩) .e))) (some ⟨Tryz.f23, 71⟩) (.n (.n (.n (.n .e (some ⟨Tryz.f279, 19⟩) .e) (some ⟨Tryz.f151, 5⟩) .e) (some ⟨Tryz.f87, 524575⟩) (.n (.n .e (some ⟨Tryz.f343, 1055⟩) .e) (some ⟨Tryz.f215, 69222795455⟩) .e)) (some ⟨Tryz.f55, 65735⟩) (.n (.n (.n .e (some ⟨Tryz.f311, 277⟩) .e) (some ⟨Tryz.f183, 4083⟩) .e) (some ⟨Tryz.f119, 1005⟩) (.n .e (some ⟨Tryz.f247, 604275⟩) .e))))) (some ⟨Tryz.f3, 2475880078570761649309880829⟩) (.n (.n (.n (.n (.n (.n .e (some ⟨Tryz.f259, 21853⟩) .e) (some ⟨Tryz.f131, 154742504928689131895132157⟩) .e) (some ⟨Tryz.f67, 536872695⟩) (.n (.n .e (some ⟨Tryz.f323, 3⟩) .e) (some ⟨Tryz.f195, 455⟩) .e)) (some ⟨Tryz.f35, 2420213399063395471089439⟩) (.n (.n (.n .e (some ⟨Tryz.f291, 10384593871817177683247510831234831⟩) .e) (some ⟨Tryz.f163, 1⟩) .e) (some ⟨Tryz.f99, 4319341⟩) (.n (.n .e (some ⟨Tryz.f355, 5⟩) .e) (some ⟨Tryz.f227, 1006637375⟩) .e))) (some ⟨Tryz.f19, 131187⟩) (.n (.n (.n (.n .e (some ⟨Tryz.f275, 15⟩) .e) (some ⟨Tryz.f147, 31⟩) .e) (some ⟨Tryz.f83, 19⟩) (.n (.n .e (some ⟨Tryz.f339, 4503668346913551⟩) .e) (some ⟨Tryz.f211, 4671⟩) .e)) (some ⟨Tryz.f51, 21⟩) (.n (.n (.n .e (some ⟨Tryz.f307, 83087207854311395603287443752634311⟩) .e) (some ⟨Tryz.f179, 1065983⟩) .e) (some ⟨Tryz.f115, 151254111809383002844159⟩) (.n (.n .e (some ⟨Tryz.f371, 9231⟩) .e) (some ⟨Tryz.f243, 295147905181504570311⟩) .e)))) (some ⟨Tryz.f11, 5⟩) (.n (.n (.n (.n (.n .e (some ⟨Tryz.f267, 5⟩) .e) (some ⟨Tryz.f139, 5⟩) .e) (some ⟨Tryz.f75, 9066943647109865409623495⟩) (.n (.n .e (some ⟨Tryz.f331, 19023213622105999119⟩) .e) (some ⟨Tryz.f203, 168359846523997254500734730751⟩) .e)) (some ⟨Tryz.f43, 20809752330717866328322744533398267⟩) (.n (.n (.n .e (some ⟨Tryz.f299, 3⟩) .e) (some ⟨Tryz.f171, 9739716551⟩) .e) (some ⟨Tryz.f107, 23⟩) (.n (.n .e (some ⟨Tryz.f363, 9440287⟩) .e) (some ⟨Tryz.f235, 1298669605764163833824193875689213⟩) .e))) (some ⟨Tryz.f27, 21⟩) (.n (.n (.n (.n .e (some ⟨Tryz.f283, 7891⟩) .e) (some ⟨Tryz.f155, 16781235⟩) .e) (some ⟨Tryz.f91, 19⟩) (.n (.n .e (some ⟨Tryz.f347, 1333065575601045263⟩) .e) (some ⟨Tryz.f219, 4194365⟩) .e)) (some ⟨Tryz.f59, 17592190111191⟩) (.n (.n (.n .e (some ⟨Tryz.f315, 42535296023574879666274036850519702559⟩) .e) (some ⟨Tryz.f187, 511⟩) .e) (some ⟨Tryz.f123, 528499⟩) (.n .e (some ⟨Tryz.f251, 66483⟩) .e)))))) none (.n (.n (.n (.n (.n (.n (.n .e (some ⟨Tryz.f257, 2147754999⟩) .e) (some ⟨Tryz.f129, 37778931863232039618557⟩) .e) (some ⟨Tryz.f65, 31⟩) (.n (.n .e (some ⟨Tryz.f321, 5⟩) .e) (some ⟨Tryz.f193, 2149482775⟩) .e)) (some ⟨Tryz.f33, 324518553658429032628364262080351⟩) (.n (.n (.n .e (some ⟨Tryz.f289, 7891⟩) .e) (some ⟨Tryz.f161, 17527⟩) .e) (some ⟨Tryz.f97, 8589956987⟩) (.n (.n .e (some ⟨Tryz.f353, 19⟩) .e) (some ⟨Tryz.f225, 4194365⟩) .e))) (some ⟨Tryz.f17, 1091575631⟩) (.n (.n (.n (.n .e (some ⟨Tryz.f273, 16391⟩) .e) (some ⟨Tryz.f145, 558345785843⟩) .e) (some ⟨Tryz.f81, 72091129176132551⟩) (.n (.n .e (some ⟨Tryz.f337, 17179886351⟩) .e) (some ⟨Tryz.f209, 16499⟩) .e)) (some ⟨Tryz.f49, 7⟩) (.n (.n (.n .e (some ⟨Tryz.f305, 20829169751433159⟩) .e) (some ⟨Tryz.f177, 133375⟩) .e) (some ⟨Tryz.f113, 540440751381749759⟩) (.n (.n .e (some ⟨Tryz.f369, 262927⟩) .e) (some ⟨Tryz.f241, 27⟩) .e)))) (some ⟨Tryz.f9, 525439⟩) (.n (.n (.n (.n (.n .e (some ⟨Tryz.f265, 5⟩) .e) (some ⟨Tryz.f137, 83⟩) .e) (some ⟨Tryz.f73, 166154134541209304334344620940992509⟩) (.n (.n .e (some ⟨Tryz.f329, 83087207854311395603287443752634311⟩) .e) (some ⟨Tryz.f201, 73786976569716146375⟩) .e)) (some ⟨Tryz.f41, 142851855⟩) (.n (.n (.n .e (some ⟨Tryz.f297, 15⟩) .e) (some ⟨Tryz.f169, 16793287⟩) .e) (some ⟨Tryz.f105, 2061584302111⟩) (.n (.n .e (some ⟨Tryz.f361, 3⟩) .e) (some ⟨Tryz.f233, 17596514574653⟩) .e))) (some ⟨Tryz.f25, 32212258797⟩) (.n (.n (.n (.n .e (some ⟨Tryz.f281, 15⟩) .e) (some ⟨Tryz.f153, 268443463⟩) .e) (some ⟨Tryz.f89, 66483⟩) (.n (.n .e (some ⟨Tryz.f345, 8592039695⟩) .e) (some ⟨Tryz.f217, 31325⟩) .e)) (some ⟨Tryz.f57, 5⟩) (.n (.n (.n .e (some ⟨Tryz.f313, 66483⟩) .e) (some ⟨Tryz.f185, 297237584130614267⟩) .e) (some ⟨Tryz.f121, 4979⟩) (.n .e (some ⟨Tryz.f249, 5⟩) .e))))) (some ⟨Tryz.f5, 1078068199⟩) (.n (.n (.n (.n (.n (.n .e (some ⟨Tryz.f261, 19⟩) .e) (some ⟨Tryz.f133, 68786606205⟩) .e) (some ⟨Tryz.f69, 1050311⟩) (.n (.n .e (some ⟨Tryz.f325, 1074268103⟩) .e) (some ⟨Tryz.f197, 4223⟩) .e)) (some ⟨Tryz.f37, 70376797244411⟩) (.n (.n (.n .e (some ⟨Tryz.f293, 15⟩) .e) (some ⟨Tryz.f165, 307⟩) .e) (some ⟨Tryz.f101, 4319341⟩) (.n (.n .e (some ⟨Tryz.f357, 4503668346913551⟩) .e) (some ⟨Tryz.f229, 5⟩) .e))) (some ⟨Tryz.f21, 220855988409592848311952935252008876326972138845107449103949061404254451⟩) (.n (.n (.n (.n .e (some ⟨Tryz.f277, 295147905181504570311⟩) .e) (some ⟨Tryz.f149, 21⟩) .e) (some ⟨Tryz.f85, 1005⟩) (.n .e (some ⟨Tryz.f213, 4194365⟩) .e)) (some ⟨Tryz.f53, 31⟩) (.n (.n (.n .e (some ⟨Tryz.f309, 19023213622105999119⟩) .e) (some ⟨Tryz.f181, 316912792908643597918465978367⟩) .e) (some ⟨Tryz.f117, 35417748639151049441087⟩) (.n .e (some ⟨Tryz.f245, 31⟩) .e)))) (some ⟨Tryz.f13, 524743⟩) (.n (.n (.n (.n (.n .e (some ⟨Tryz.f269, 27⟩) .e) (some ⟨Tryz.f141, 67633779⟩) .e) (some ⟨Tryz.f77, 33789⟩) (.n .e (some ⟨Tryz.f205, 1967⟩) .e)) (some ⟨Tryz.f45, 21⟩) (.n (.n (.n .e (some ⟨Tryz.f301, 5⟩) .e) (some ⟨Tryz.f173, 71⟩) .e) (some ⟨Tryz.f109, 40194441209054931530398265287⟩) (.n (.n .e (some ⟨Tryz.f365, 288231475663604767⟩) .e) (some ⟨Tryz.f237, 19⟩) .e))) (some ⟨Tryz.f29, 21⟩) (.n (.n (.n (.n .e (some ⟨Tryz.f285, 93⟩) .e) (some ⟨Tryz.f157, 67687⟩) .e) (some ⟨Tryz.f93, 4620710818459255359⟩) (.n (.n .e (some ⟨Tryz.f349, 21268317252094917911888073248812900111⟩) .e) (some ⟨Tryz.f221, 4194365⟩) .e)) (some ⟨Tryz.f61, 536872695⟩) (.n (.n (.n .e (some ⟨Tryz.f317, 15⟩) .e) (some ⟨Tryz.f189, 1999⟩) .e) (some ⟨Tryz.f125, 144115446847670653⟩) (.n .e (some ⟨Tryz.f253, 65735⟩) .e))))))) none (.n (.n (.n (.n (.n (.n (.n (.n .e (some ⟨Tryz.f256, 67831⟩) .e) (some ⟨Tryz.f128, 590431199822537037821⟩) .e) (some ⟨Tryz.f64, 5⟩) (.n (.n .e (some ⟨Tryz.f320, 925⟩) .e) (some ⟨Tryz.f192, 4195271⟩) .e)) (some ⟨Tryz.f32, 674998611455262712541146175783616463⟩) (.n (.n (.n .e (some ⟨Tryz.f288, 285⟩) .e) (some ⟨Tryz.f160, 1966639⟩) .e) (some ⟨Tryz.f96, 2163⟩) (.n .e (some ⟨Tryz.f224, 4194365⟩) .e))) (some ⟨Tryz.f16, 525⟩) (.n (.n (.n (.n .e (some ⟨Tryz.f272, 74695⟩) .e) (some ⟨Tryz.f144, 5⟩) .e) (some ⟨Tryz.f80, 8647966987512710589⟩) (.n (.n .e (some ⟨Tryz.f336, 3⟩) .e) (some ⟨Tryz.f208, 536874995⟩) .e)) (some ⟨Tryz.f48, 1218675221367699343479⟩) (.n (.n (.n .e (some ⟨Tryz.f304, 8804682991559⟩) .e) (some ⟨Tryz.f176, 21⟩) .e) (some ⟨Tryz.f112, 266751⟩) (.n (.n .e (some ⟨Tryz.f368, 525⟩) .e) (some ⟨Tryz.f240, 549755813947⟩) .e)))) (some ⟨Tryz.f8, 1224983771585970235⟩) (.n (.n (.n (.n (.n .e (some ⟨Tryz.f264, 71072503⟩) .e) (some ⟨Tryz.f136, 4398054113309⟩) .e) (some ⟨Tryz.f72, 33620221⟩) (.n (.n .e (some ⟨Tryz.f328, 8391⟩) .e) (some ⟨Tryz.f200, 455⟩) .e)) (some ⟨Tryz.f40, 4854740319468519222918175⟩) (.n (.n (.n .e (some ⟨Tryz.f296, 19⟩) .e) (some ⟨Tryz.f168, 77⟩) .e) (some ⟨Tryz.f104, 4722366764413609844799⟩) (.n (.n .e (some ⟨Tryz.f360, 5⟩) .e) (some ⟨Tryz.f232, 5⟩) .e))) (some ⟨Tryz.f24, 1126760024884191⟩) (.n (.n (.n (.n .e (some ⟨Tryz.f280, 31⟩) .e) (some ⟨Tryz.f152, 66555⟩) .e) (some ⟨Tryz.f88, 711⟩) (.n (.n .e (some ⟨Tryz.f344, 17179886351⟩) .e) (some ⟨Tryz.f216, 5⟩) .e)) (some ⟨Tryz.f56, 18889465966666987912179⟩) (.n (.n (.n .e (some ⟨Tryz.f312, 16661⟩) .e) (some ⟨Tryz.f184, 8243⟩) .e) (some ⟨Tryz.f120, 31163⟩) (.n .e (some ⟨Tryz.f248, 10384593871817177683247510831234831⟩) .e))))) (some ⟨Tryz.f4, 4456695⟩) (.n (.n (.n (.n (.n (.n .e (some ⟨Tryz.f260, 1339612589540973385843439843975626695⟩) .e) (some ⟨Tryz.f132, 71485452453391⟩) .e) (some ⟨Tryz.f68, 29⟩) (.n (.n .e (some ⟨Tryz.f324, 1073746119⟩) .e) (some ⟨Tryz.f196, 175⟩) .e)) (some ⟨Tryz.f36, 31⟩) (.n (.n (.n .e (some ⟨Tryz.f292, 31⟩) .e) (some ⟨Tryz.f164, 2247⟩) .e) (some ⟨Tryz.f100, 590295827955255872383⟩) (.n (.n .e (some ⟨Tryz.f356, 3⟩) .e) (some ⟨Tryz.f228, 71⟩) .e))) (some ⟨Tryz.f20, 2130163⟩) (.n (.n (.n (.n .e (some ⟨Tryz.f276, 524403⟩) .e) (some ⟨Tryz.f148, 31⟩) .e) (some ⟨Tryz.f84, 324558168948683609693825854902271⟩) (.n (.n .e (some ⟨Tryz.f340, 5⟩) .e) (some ⟨Tryz.f212, 4194365⟩) .e)) (some ⟨Tryz.f52, 137455731197⟩) (.n (.n (.n .e (some ⟨Tryz.f308, 19⟩) .e) (some ⟨Tryz.f180, 1180600627916666577919⟩) .e) (some ⟨Tryz.f116, 562625694248682462207⟩) (.n (.n .e (some ⟨Tryz.f372, 4197407⟩) .e) (some ⟨Tryz.f244, 3⟩) .e)))) (some ⟨Tryz.f12, 134218199⟩) (.n (.n (.n (.n (.n .e (some ⟨Tryz.f268, 72057611234574845⟩) .e) (some ⟨Tryz.f140, 5⟩) .e) (some ⟨Tryz.f76, 29⟩) (.n (.n .e (some ⟨Tryz.f332, 22458641409078797123448399039441150152463⟩) .e) (some ⟨Tryz.f204, 5⟩) .e)) (some ⟨Tryz.f44, 21⟩) (.n (.n (.n .e (some ⟨Tryz.f300, 18014433942971335⟩) .e) (some ⟨Tryz.f172, 36430988517135⟩) .e) (some ⟨Tryz.f108, 77446884178166542342627135⟩) (.n (.n .e (some ⟨Tryz.f364, 262927⟩) .e) (some ⟨Tryz.f236, 27⟩) .e))) (some ⟨Tryz.f28, 21⟩) (.n (.n (.n (.n .e (some ⟨Tryz.f284, 51⟩) .e) (some ⟨Tryz.f156, 51⟩) .e) (some ⟨Tryz.f92, 69273703⟩) (.n (.n .e (some ⟨Tryz.f348, 33543⟩) .e) (some ⟨Tryz.f220, 8053212031⟩) .e)) (some ⟨Tryz.f60, 91⟩) (.n (.n (.n .e (some ⟨Tryz.f316, 19⟩) .e) (some ⟨Tryz.f188, 4194311⟩) .e) (some ⟨Tryz.f124, 9224427568625634301⟩) (.n .e (some ⟨Tryz.f252, 15⟩) .e)))))) none (.n (.n (.n (.n (.n (.n (.n .e (some ⟨Tryz.f258, 16371⟩) .e) (some ⟨Tryz.f130, 18889465932578092484605⟩) .e) (some ⟨Tryz.f66, 33123870051119⟩) (.n .e (some ⟨Tryz.f194, 76092820441983877183⟩) .e)) (some ⟨Tryz.f34, 9903520904650980537861521391⟩) (.n (.n (.n .e (some ⟨Tryz.f290, 7891⟩) .e) (some ⟨Tryz.f162, 9583117323598555556815⟩) .e) (some ⟨Tryz.f98, 37⟩) (.n (.n .e (some ⟨Tryz.f354, 51⟩) .e) (some ⟨Tryz.f226, 264011640278399⟩) .e))) (some ⟨Tryz.f18, 7⟩) (.n (.n (.n (.n .e (some ⟨Tryz.f274, 66483⟩) .e) (some ⟨Tryz.f146, 990895⟩) .e) (some ⟨Tryz.f82, 29⟩) (.n (.n .e (some ⟨Tryz.f338, 13164839976634628298295110780136696778032692856359452003713154079⟩) .e) (some ⟨Tryz.f210, 2013⟩) .e)) (some ⟨Tryz.f50, 21⟩) (.n (.n (.n .e (some ⟨Tryz.f306, 8391⟩) .e) (some ⟨Tryz.f178, 32220790271⟩) .e) (some ⟨Tryz.f114, 32993939301375⟩) (.n (.n .e (some ⟨Tryz.f370, 525⟩) .e) (some ⟨Tryz.f242, 1005⟩) .e)))) (some ⟨Tryz.f10, 15389⟩) (.n (.n (.n (.n (.n .e (some ⟨Tryz.f266, 5⟩) .e) (some ⟨Tryz.f138, 69555⟩) .e) (some ⟨Tryz.f74, 1087⟩) (.n (.n .e (some ⟨Tryz.f330, 19⟩) .e) (some ⟨Tryz.f202, 135091⟩) .e)) (some ⟨Tryz.f42, 16839⟩) (.n (.n .e (some ⟨Tryz.f170, 17246982643⟩) .e) (some ⟨Tryz.f106, 2099443⟩) (.n (.n .e (some ⟨Tryz.f362, 525⟩) .e) (some ⟨Tryz.f234, 5⟩) .e))) (some ⟨Tryz.f26, 7⟩) (.n (.n (.n (.n .e (some ⟨Tryz.f282, 8211⟩) .e) (some ⟨Tryz.f154, 67125363⟩) .e) (some ⟨Tryz.f90, 7⟩) (.n (.n .e (some ⟨Tryz.f346, 35218731966215⟩) .e) (some ⟨Tryz.f218, 4194365⟩) .e)) (some ⟨Tryz.f58, 72057598064461303⟩) (.n (.n (.n .e (some ⟨Tryz.f314, 5⟩) .e) (some ⟨Tryz.f186, 69273703⟩) .e) (some ⟨Tryz.f122, 5⟩) (.n .e (some ⟨Tryz.f250, 1005⟩) .e))))) (some ⟨Tryz.f6, 262399⟩) (.n (.n (.n (.n (.n (.n .e (some ⟨Tryz.f262, 31⟩) .e) (some ⟨Tryz.f134, 141289400074447⟩) .e) (some ⟨Tryz.f70, 13⟩) (.n (.n .e (some ⟨Tryz.f326, 8804682991559⟩) .e) (some ⟨Tryz.f198, 253⟩) .e)) (some ⟨Tryz.f38, 18446744348604980767⟩) (.n (.n (.n .e (some ⟨Tryz.f294, 66483⟩) .e) (some ⟨Tryz.f166, 77⟩) .e) (some ⟨Tryz.f102, 275⟩) (.n (.n .e (some ⟨Tryz.f358, 71⟩) .e) (some ⟨Tryz.f230, 5⟩) .e))) (some ⟨Tryz.f22, 7⟩) (.n (.n (.n (.n .e (some ⟨Tryz.f278, 8285⟩) .e) (some ⟨Tryz.f150, 251699645⟩) .e) (some ⟨Tryz.f86, 5⟩) (.n (.n .e (some ⟨Tryz.f342, 71⟩) .e) (some ⟨Tryz.f214, 19⟩) .e)) (some ⟨Tryz.f54, 21⟩) (.n (.n (.n .e (some ⟨Tryz.f310, 22458641409078797123448399039441150152463⟩) .e) (some ⟨Tryz.f182, 16888774034480959⟩) .e) (some ⟨Tryz.f118, 35186519711687⟩) (.n .e (some ⟨Tryz.f246, 17389⟩) .e)))) (some ⟨Tryz.f14, 288511885488164807⟩) (.n (.n (.n (.n (.n .e (some ⟨Tryz.f270, 7415⟩) .e) (some ⟨Tryz.f142, 36642572271⟩) .e) (some ⟨Tryz.f78, 525363⟩) (.n (.n .e (some ⟨Tryz.f334, 3⟩) .e) (some ⟨Tryz.f206, 4103⟩) .e)) (some ⟨Tryz.f46, 321371541480605⟩) (.n (.n (.n .e (some ⟨Tryz.f302, 1073746119⟩) .e) (some ⟨Tryz.f174, 16455⟩) .e) (some ⟨Tryz.f110, 33571359⟩) (.n (.n .e (some ⟨Tryz.f366, 271⟩) .e) (some ⟨Tryz.f238, 31⟩) .e))) (some ⟨Tryz.f30, 35186519577075⟩) (.n (.n (.n (.n .e (some ⟨Tryz.f286, 1187965⟩) .e) (some ⟨Tryz.f158, 537396023⟩) .e) (some ⟨Tryz.f94, 20971763⟩) (.n (.n .e (some ⟨Tryz.f350, 1217485249602318769183⟩) .e) (some ⟨Tryz.f222, 4194365⟩) .e)) (some ⟨Tryz.f62, 79266867039185816145300102975⟩) (.n (.n (.n .e (some ⟨Tryz.f318, 301991695⟩) .e) (some ⟨Tryz.f190, 4326949911⟩) .e) (some ⟨Tryz.f126, 18014398526316541⟩) (.n .e (some ⟨Tryz.f254, 19⟩) .e))))))))
end Go.Proofs.YteomkfapkfogcaaGreat
namespace Go.Proofs.YteomkfapkfogcaaGreat
noncomputable section
def colX : Nat → Nat → Option Nat
  | 0, 1 => some 0
  | 0, 2 => some 0
  | 0, 3 => some 1
  | 0, 4 => some 0
  | 1, 1 => some 0
  | 1, 2 => some 1
  | 1, 3 => some 2
  | 1, 4 => some 1
  | _, _ => none
def memoX (f : Nat) (ts : List TX) : Option TX := match Nat.beq f 6 with
  | true => (match ts with
    | [] => some (.c (.v (.bool true)))
    | _ => none)
  | false => (match Nat.beq f 318 with
    | true => (match ts with
      | [.c (.v (.int .u64 (.ofNat a))), .c (.v (.int .i64 (.ofNat r))), .c (.v (.int .i64 (.ofNat n))), .c (.v (.string s))] => (match Nat.beq a 9 && eqU s.data.toList [97] with
        | true => (match colX r n with
          | some m => some (.t [.c (.v (.int .i64 (.ofNat m))), .c (.v (.int .i64 (.ofNat 0)))])
          | none => none)
        | false => none)
      | _ => none)
    | false => none)
def esc3 : Nat := match funcsX.get 3 with
  | some x => x.esc
  | none => 0
def body3 : Code := match Tryz.f3.body with
  | some c => c
  | none => .skip
def q1 : Code := sndC body3
def q2 : Code := sndC q1
def q3 : Code := sndC q2
def q4 : Code := sndC q3
def q5 : Code := sndC q4
def q6 : Code := sndC q5
def loop3 : Code := inC (sndC (fstC q6))
def round3 : Code := inC loop3
def codeA : List Code := [fstC body3, fstC q1, fstC q2]
def codeB : List Code := [fstC q3, fstC q4]
def codeC : List Code := [fstC q5]
def codeD : Code := fstC (fstC q6)
def codeZ : Code := sndC q6
def init3 : LS := ⟨[(0, .c (.x 0))], .e, 0⟩
end
end Go.Proofs.YteomkfapkfogcaaGreat
