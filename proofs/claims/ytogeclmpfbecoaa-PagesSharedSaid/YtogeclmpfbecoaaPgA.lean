/- Slices of slices of bytes in memory. No condition. -/
import Derived.Test.YtogeclmpfbecoaaPgSpec
namespace Go.Proofs.Ytogeclmpfbecoaa
open Go.RowKit Go.ChangeShapes Go.WideShapes
set_option linter.unusedVariables false
set_option linter.unusedSimpArgs false
/-- The i-th value of a list. -/
def gV (l : List Value) (i : Nat) : Value := l.getD i undef
def gL (l : List (List Int)) (i : Nat) : List Int := l.getD i []
theorem gV_eq {l : List Value} {i : Nat} (h : i < l.length) : gV l i = l[i] := by simp [gV, h]
theorem gL_eq {l : List (List Int)} {i : Nat} (h : i < l.length) : gL l i = l[i] := by simp [gL, h]
/-- The value v is a slice of the values vs, each of one cell. -/
def Row (w : World) (v : Value) (vs : List Value) : Prop :=
  ∃ a cap, v = .slice a vs.length cap ∧ vs.length ≤ cap ∧ cap ≤ maxLen ∧ (vs = [] ∨ ∃ b off, a = some ⟨b, off, none⟩ ∧ b < w.heap.size ∧ ∀ i, i < vs.length → w.cell? ⟨b, off + i, none⟩ = some (gV vs i))
theorem Row.grown {w w' : World} {v : Value} {vs : List Value} (h : Row w v vs) (hg : w.grownBy w' none) : Row w' v vs := by
  obtain ⟨a, cap, rfl, h1, h2, h4⟩ := h
  refine ⟨a, cap, rfl, h1, h2, ?_⟩
  rcases h4 with h4 | ⟨b, off, rfl, hb, hc⟩
  · exact .inl h4
  · refine .inr ⟨b, off, rfl, Nat.lt_of_lt_of_le hb hg.size, fun i hi => ?_⟩
    rw [World.cell?_of_block (w := w) (hg.block b hb (by simp))]
    exact hc i hi
/-- What the call owns reads as a row. -/
theorem row_of_own {w : World} {B : Nat} {e : TypeId} {v : Value} {vs : List Value} (h : w.ownsRow B e 1 v vs.length vs) : Row w v vs := by
  rcases h.2 with ⟨rfl, hn⟩ | ⟨g, cap, cur, rfl, hb, hg, hc, hm, hs, ht⟩
  · exact ⟨none, 0, by rw [hn], by omega, by unfold maxLen; omega, .inl (List.eq_nil_of_length_eq_zero hn)⟩
  · refine ⟨_, cap, rfl, hc, hm, .inr ⟨g, 0, rfl, (Array.getElem?_eq_some_iff.1 hg).1, fun i hi => ?_⟩⟩
    have := h.cellAt i (by omega)
    rw [gV_eq hi]; simpa [hi] using this
/-- The value v is a slice of slices of bytes, L. -/
def Pgs (w : World) (v : Value) (L : List (List Int)) : Prop := ∃ vs, Row w v vs ∧ vs.length = L.length ∧ ∀ i, i < L.length → Ints .u8 w (gV vs i) (gL L i)
theorem Pgs.grown {w w' : World} {v : Value} {L : List (List Int)} (h : Pgs w v L) (hg : w.grownBy w' none) : Pgs w' v L := by
  obtain ⟨vs, h1, h2, h3⟩ := h
  exact ⟨vs, h1.grown hg, h2, fun i hi => (h3 i hi).grown hg⟩
theorem Pgs.shape {w : World} {v : Value} {L : List (List Int)} (h : Pgs w v L) : ∃ a cap, v = .slice a L.length cap ∧ L.length ≤ cap ∧ cap ≤ maxLen := by
  obtain ⟨vs, ⟨a, cap, e, h1, h2, _⟩, h3, _⟩ := h
  exact ⟨a, cap, by rw [← h3]; exact e, by omega, h2⟩
/-- The cell of element i. -/
theorem Pgs.at {w : World} {a : Option Addr} {n cap : Nat} {L : List (List Int)} (h : Pgs w (.slice a n cap) L) {i : Nat} (hi : i < L.length) :
    ∃ b off u, a = some ⟨b, off, none⟩ ∧ b < w.heap.size ∧ w.cell? ⟨b, off + i, none⟩ = some u ∧ Ints .u8 w u (gL L i) := by
  obtain ⟨vs, ⟨a', cap', e, h1, h2, h4⟩, h3, h5⟩ := h
  cases e
  rcases h4 with rfl | ⟨b, off, rfl, hb, hc⟩
  · simp at h3; omega
  · exact ⟨b, off, _, rfl, hb, hc i (by omega), h5 i hi⟩
/-- Ints whose block is not g. -/
def IntsOff (k : IntKind) (g : Option Nat) (w : World) (u : Value) (l : List Int) : Prop := Ints k w u l ∧ (l = [] ∨ ∀ b off n c, u = .slice (some ⟨b, off, none⟩) n c → some b ≠ g)
theorem IntsOff.block {k : IntKind} {g : Option Nat} {w : World} {u : Value} {l : List Int} (h : IntsOff k g w u l) {w' : World} (hg : w.grownBy w' g) : Ints k w' u l := by
  obtain ⟨⟨a, cap, rfl, h1, h2, h3, h4⟩, h5⟩ := h
  refine ⟨a, cap, rfl, h1, h2, h3, ?_⟩
  rcases h4 with h4 | ⟨b, off, rfl, hb, hc⟩
  · exact .inl h4
  · rcases h5 with h5 | h5
    · exact .inl h5
    · refine .inr ⟨b, off, rfl, Nat.lt_of_lt_of_le hb hg.size, fun i hi => ?_⟩
      rw [World.cell?_of_block (w := w) (hg.block b hb (h5 b off _ _ rfl))]
      exact hc i hi
theorem IntsOff.more {k : IntKind} {g g' : Option Nat} {w : World} {u : Value} {l : List Int} (h : IntsOff k g w u l) {w' : World} (hg : w.grownBy w' g) (h' : g' = g ∨ g' = some w.heap.size) : IntsOff k g' w' u l := by
  refine ⟨h.block hg, ?_⟩
  rcases h' with rfl | rfl
  · exact h.2
  · obtain ⟨⟨a, cap, rfl, h1, h2, h3, h4⟩, h5⟩ := h
    rcases h4 with h4 | ⟨b, off, rfl, hb, hc⟩
    · exact .inl h4
    · refine .inr fun b' off' n c e => ?_
      cases e
      intro e
      cases e
      omega
theorem IntsOff.keep {k : IntKind} {g : Option Nat} {w : World} {u : Value} {l : List Int} (h : IntsOff k g w u l) {w' : World} (hg : w.grownBy w' none) : IntsOff k g w' u l := ⟨h.1.grown hg, h.2⟩
/-- Bytes in a block of their own, made after the row. -/
theorem intsOff_own {k : IntKind} {w : World} {B : Nat} {e : TypeId} {u : Value} {l : List Int} {g : Option Nat} (h : w.ownsRow B e 1 u l.length (l.map (.int k))) (hw : ∀ n ∈ l, (Lit.int k n).wf = true) (hg : ∀ b, g = some b → b < B) : IntsOff k g w u l := by
  refine ⟨ints_of_own h hw, .inr fun b off n c e => ?_⟩
  intro e2
  have h1 := (h.lt b (by rw [e]; rfl)).1
  have := hg b e2.symm
  omega
/-- A row of pages that the call owns, and one page more. -/
def PgOwn (w : World) (B : Nat) (e : TypeId) (v : Value) (L : List (List Int)) : Prop := ∃ vs, w.ownsRow B e 1 v vs.length vs ∧ vs.length = L.length ∧ ∀ i, i < L.length → IntsOff .u8 v.ownBlock w (gV vs i) (gL L i)
theorem PgOwn.pgs {w : World} {B : Nat} {e : TypeId} {v : Value} {L : List (List Int)} (h : PgOwn w B e v L) : Pgs w v L := by
  obtain ⟨vs, h1, h2, h3⟩ := h
  exact ⟨vs, row_of_own h1, h2, fun i hi => (h3 i hi).1⟩
theorem PgOwn.nil (w : World) (B : Nat) (e : TypeId) : PgOwn w B e (.slice none 0 0) [] := ⟨[], World.ownsRow_nil _ _ _ _, rfl, by simp⟩
theorem pgOwn_push {w w' : World} {B : Nat} {e : TypeId} {v v' u : Value} {vs : List Value} {L : List (List Int)} {l : List Int} (hown : w'.ownsRow B e 1 v' (vs.length + 1) (vs ++ [u])) (hg : w.grownBy w' v.ownBlock)
    (hb : v'.ownBlock = v.ownBlock ∨ v'.ownBlock = some w.heap.size) (hvs : vs.length = L.length) (he : ∀ i, i < L.length → IntsOff .u8 v.ownBlock w (gV vs i) (gL L i)) (hu : IntsOff .u8 v.ownBlock w u l) : PgOwn w' B e v' (L ++ [l]) := by
  refine ⟨vs ++ [u], by simpa using hown, by simp [hvs], fun i hi => ?_⟩
  by_cases h : i < L.length
  · have e1 : gV (vs ++ [u]) i = gV vs i := by simp only [gV, List.getD_eq_getElem?_getD]; rw [List.getElem?_append_left (by omega)]
    have e2 : gL (L ++ [l]) i = gL L i := by simp only [gL, List.getD_eq_getElem?_getD]; rw [List.getElem?_append_left h]
    rw [e1, e2]
    exact (he i h).more hg hb
  · have hi' : i = L.length := by simp at hi; omega
    subst hi'
    have e1 : gV (vs ++ [u]) L.length = u := by unfold gV; rw [← hvs]; simp
    have e2 : gL (L ++ [l]) L.length = l := by unfold gL; simp
    rw [e1, e2]
    exact hu.more hg hb
end Go.Proofs.Ytogeclmpfbecoaa
