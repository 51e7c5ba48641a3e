/- Parts of the proof, laid together. No condition. -/
import Derived.Test.YtimfmcpbkdpmoaaGreatKB5
set_option linter.unusedVariables false
set_option linter.unusedSimpArgs false
namespace Go.Proofs.YtimfmcpbkdpmoaaGreat
open Go.RowKit
def OZ (f t c : Int) : Bool := decide (f ≤ c) && (decide (c < t) || t == 0)
def bnF (s : ByteArray) (c : Int) (b : Qg) : Bool := b.ff0.toList == s.toList && OZ b.fd3 b.fTo c
def veF (c : Int) (v : Qq) : Bool := OZ v.fd3 v.fTo c
def obF (id : Int) (o : Qu) : Bool := o.fID == id
def view (s : Q2) (name : ByteArray) (c : Int) : Option (Int × Qq) :=
 (s.fb6.find? (bnF name c)).bind fun b => (s.fa9.find? (obF b.fb9)).bind fun o => (o.fc1.find? (veF c)).map fun v => (o.fID, v)
theorem Qqw {α : Type} {l : List α} {f : α → Bool} {j : Nat} {x : α} (h : ∀ y ∈ l.take j, f y = false) (hx : l[j]? = some x) (hf : f x = true) : l.find? f = some x := by
 obtain ⟨hj, e⟩ := List.getElem?_eq_some_iff.1 hx
 have : l = l.take j ++ x :: l.drop (j + 1) := by rw [← e, List.getElem_cons_drop, List.take_append_drop]
 rw [this, List.find?_append, List.find?_eq_none.2 (fun y hy => by rw [h y hy]; simp)]
 simp [hf]
theorem Qqx {α : Type} {l : List α} {f : α → Bool} (h : ∀ y ∈ l.take l.length, f y = false) : l.find? f = none := by
 rw [List.take_length] at h
 exact List.find?_eq_none.2 fun y hy => by rw [h y hy]; simp
theorem Qqy {α : Type} {l : List α} {f : α → Bool} {j : Nat} {x : α} (h : ∀ y ∈ l.take j, f y = false) (hx : l[j]? = some x) (hf : f x = false) : ∀ y ∈ l.take (j + 1), f y = false := by
 rw [List.take_add_one, hx]
 intro y hy
 rcases List.mem_append.1 hy with hy | hy
 ·exact h y hy
 ·simp at hy; subst hy; exact hf
theorem Q8y {α : Type} {l : List α} (hl : l.length ≤ 4611686018427387904) (f : α → Bool) {B : (Int → Prop) → Int → Prop} {J : Prop}
  (hB : ∀ (j : Nat) x, l[j]? = some x → ix l (j : Int) x → (f x = true → l.find? f = some x) → ∀ X : Int → Prop, (f x = false → X (IntKind.i64.wrap ((j : Int) + 1))) → B X (j : Int)) (hJ : l.find? f = none → J) :
  lp (fun X s => ct (decide (s < (l.length : Int))) (B X s) J) 0 := by
 refine XM (I := fun n s => ∃ j : Nat, s = (j : Int) ∧ j ≤ l.length ∧ n = l.length - j ∧ ∀ y ∈ l.take j, f y = false) ?_ (k := l.length) ⟨0, rfl, by omega, by omega, by simp⟩
 rintro n s ⟨j, rfl, hj, hn, hi⟩ X hX
 refine ⟨fun c => ?_, fun c => ?_⟩
 ·have hj2 : j < l.length := by simpa using c
  have hx : l[j]? = some l[j] := by simp [hj2]
  refine hB j l[j] hx (CM hj2) (Qqw hi hx) X fun hf => ?_
  rw [Zp (by omega)]
  exact hX (l.length - (j + 1)) _ (by omega) ⟨j + 1, by simp, by omega, rfl, Qqy hi hx hf⟩
 ·have : j = l.length := by simp at c; omega
  subst this
  exact hJ (Qqx hi)
structure Sv (s : Q2) : Prop where
 bt : ∀ b ∈ s.fb6, b.fTo = 0 ∨ b.fTo ≤ s.fa1
 vt : ∀ o ∈ s.fa9, ∀ v ∈ o.fc1, v.fTo = 0 ∨ v.fTo ≤ s.fa1
 id : s.fa9.Pairwise fun a b => a.fID ≠ b.fID
 la : ∀ o ∈ s.fa9, o.fID ≤ s.fd6
 l0 : 0 ≤ s.fd6
 lc : s.fd6 ≤ s.fa1
structure Kp (s t : Q2) : Prop where
 c : t.fa1 = s.fa1
 g : t.fq = s.fq
 v : ∀ n, view t n t.fa1 = view s n s.fa1
theorem Kp.refl (s : Q2) : Kp s s := ⟨rfl, rfl, fun _ => rfl⟩
theorem Kp.trans {s t u : Q2} (h : Kp s t) (k : Kp t u) : Kp s u := ⟨k.c.trans h.c, k.g.trans h.g, fun n => (k.v n).trans (h.v n)⟩
theorem Kp.of {s t : Q2} (h1 : t.fa1 = s.fa1) (h2 : t.fq = s.fq) (h3 : t.fb6 = s.fb6) (h4 : t.fa9 = s.fa9) : Kp s t := ⟨h1, h2, fun n => by unfold view; rw [h1, h3, h4]⟩
theorem Sv.of {s t : Q2} (h : Sv s) (h1 : t.fa1 = s.fa1) (h3 : t.fb6 = s.fb6) (h4 : t.fa9 = s.fa9) (h5 : t.fd6 = s.fd6) : Sv t := { bt := by rw [h1, h3]; exact h.bt, vt := by rw [h1, h4]; exact h.vt, id := by rw [h4]; exact h.id, la := by rw [h4, h5]; exact h.la, l0 := by rw [h5]; exact h.l0, lc := by rw [h1, h5]; exact h.lc }
theorem Nq {α : Type} {l m : List α} {f q : α → Bool} (h : l.filter q = m.filter q) (hl : ∀ x ∈ l, f x = true → q x = true) (hm : ∀ x ∈ m, f x = true → q x = true) : l.find? f = m.find? f := by
 have key : ∀ (l : List α), (∀ x ∈ l, f x = true → q x = true) → l.find? f = (l.filter q).find? f := by
  intro l hl
  rw [List.find?_filter]
  induction l with
  | nil => rfl
  | cons a l ih =>
   simp only [List.find?_cons]
   have ha := hl a (by simp)
   have := ih fun x hx => hl x (by simp [hx])
   cases hf : f a with
   | true => simp [ha hf]
   | false => simpa using this
 rw [key l hl, key m hm, h]
def IS (b : Qg) : Bool := b.fTo == 0
def Q0a (v : Qq) : Bool := v.fTo == 0
theorem Qbs {s : Q2} (h : ∀ b ∈ s.fb6, b.fTo = 0 ∨ b.fTo ≤ s.fa1) {n : ByteArray} {b : Qg} (hb : b ∈ s.fb6) (hf : bnF n s.fa1 b = true) : IS b = true := by
 unfold bnF OZ at hf
 unfold IS
 simp only [Bool.and_eq_true, Bool.or_eq_true, decide_eq_true_eq, beq_iff_eq] at hf ⊢
 rcases h b hb with h | h
 ·exact h
 ·rcases hf.2.2 with k | k
  ·omega
  ·exact k
theorem Qbt {c : Int} {l : List Qq} (h : ∀ v ∈ l, v.fTo = 0 ∨ v.fTo ≤ c) {v : Qq} (hv : v ∈ l) (hf : veF c v = true) : Q0a v = true := by
 unfold veF OZ at hf
 unfold Q0a
 simp only [Bool.and_eq_true, Bool.or_eq_true, decide_eq_true_eq, beq_iff_eq] at hf ⊢
 rcases h v hv with h | h
 ·exact h
 ·rcases hf.2 with k | k
  ·omega
  ·exact k
theorem Qje {s : Q2} (h : Sv s) {l : List Qg} (hm : ∀ b ∈ l, b ∈ s.fb6) (hf : l.filter IS = s.fb6.filter IS) : Kp s { s with fb6 := l } ∧ Sv { s with fb6 := l } := by
 refine ⟨⟨rfl, rfl, fun n => ?_⟩, { bt := fun b hb => h.bt b (hm b hb), vt := h.vt, id := h.id, la := h.la, l0 := h.l0, lc := h.lc }⟩
 unfold view
 dsimp only
 rw [Nq (q := IS) (m := s.fb6) hf (fun x hx e => Qbs h.bt (hm x hx) e) (fun x hx e => Qbs h.bt hx e)]
theorem Q4i {l : List Qu} {i : Nat} {o o' : Qu} (ho : l[i]? = some o) (he : o'.fID = o.fID) (id : Int) (hd : l.Pairwise fun a b => a.fID ≠ b.fID) : (l.set i o').find? (obF id) = (if o.fID = id then some o' else l.find? (obF id)) := by
 induction l generalizing i with
 | nil => simp at ho
 | cons a l ih =>
  cases i with
  | zero =>
   simp at ho; subst ho
   simp only [List.set_cons_zero, List.find?_cons, obF, he]
   by_cases e : a.fID = id
   ·simp [e]
   ·have e2 : (a.fID == id) = false := by simpa using e
    simp [e2, e]
  | succ i =>
   simp only [List.getElem?_cons_succ] at ho
   have hd' := List.pairwise_cons.1 hd
   have ne : a.fID ≠ o.fID := hd'.1 o (List.mem_of_getElem? ho)
   simp only [List.set_cons_succ, List.find?_cons, obF]
   have := ih ho hd'.2
   by_cases e : a.fID = id
   ·have e2 : ¬ o.fID = id := fun h => ne (by rw [e, h])
    simp [e, e2]
   ·have e2 : (a.fID == id) = false := by simpa using e
    simp only [e2]
    exact this
theorem Qjf {l : List Qu} {i : Nat} {o : Qu} (ho : l[i]? = some o) (id : Int) (hd : l.Pairwise fun a b => a.fID ≠ b.fID) : (l.eraseIdx i).find? (obF id) = (if o.fID = id then none else l.find? (obF id)) := by
 induction l generalizing i with
 | nil => simp at ho
 | cons a l ih =>
  have hd' := List.pairwise_cons.1 hd
  cases i with
  | zero =>
   simp at ho; subst ho
   simp only [List.eraseIdx_cons_zero, List.find?_cons, obF]
   by_cases e : a.fID = id
   ·simp only [e, if_true]
    exact List.find?_eq_none.2 fun x hx => by
     have := hd'.1 x hx
     unfold obF
     simp only [beq_iff_eq]
     exact fun h => this (by rw [e, h])
   ·have e2 : (a.fID == id) = false := by simpa using e
    simp [e2, e]
  | succ i =>
   simp only [List.getElem?_cons_succ] at ho
   have ne : a.fID ≠ o.fID := hd'.1 o (List.mem_of_getElem? ho)
   simp only [List.eraseIdx_cons_succ, List.find?_cons, obF]
   have := ih ho hd'.2
   by_cases e : a.fID = id
   ·have e2 : ¬ o.fID = id := fun h => ne (by rw [e, h])
    simp [e, e2]
   ·have e2 : (a.fID == id) = false := by simpa using e
    simp only [e2]
    exact this
theorem Qqz {bs : List Qg} {os os' : List Qu} {c : Int} (h : ∀ id, (os'.find? (obF id)).bind (fun o => (o.fc1.find? (veF c)).map fun v => (o.fID, v)) = (os.find? (obF id)).bind (fun o => (o.fc1.find? (veF c)).map fun v => (o.fID, v))) (n : ByteArray) : (bs.find? (bnF n c)).bind (fun b => (os'.find? (obF b.fb9)).bind fun o => (o.fc1.find? (veF c)).map fun v => (o.fID, v)) = (bs.find? (bnF n c)).bind (fun b => (os.find? (obF b.fb9)).bind fun o => (o.fc1.find? (veF c)).map fun v => (o.fID, v)) := by
 cases bs.find? (bnF n c) with
 | none => rfl
 | some b => exact h b.fb9
theorem Q8z {l : List Qu} {i : Nat} {o o' : Qu} (ho : l[i]? = some o) (he : o'.fID = o.fID) (hd : l.Pairwise fun a b => a.fID ≠ b.fID) : (l.set i o').Pairwise fun a b => a.fID ≠ b.fID := by
 have e : (l.set i o').map (·.fID) = l.map (·.fID) := by
  rw [List.map_set, he]
  apply List.ext_getElem?
  intro k
  rw [List.getElem?_set]
  split
  ·rename_i hk
   subst hk
   simp [ho]
   exact (List.getElem?_eq_some_iff.1 ho).1
  ·rfl
 have hd2 : (l.map (·.fID)).Pairwise (· ≠ ·) := List.pairwise_map.2 hd
 rw [← e] at hd2
 exact List.pairwise_map.1 hd2
theorem Qds {s : Q2} (h : Sv s) {i : Nat} {o : Qu} (ho : s.fa9[i]? = some o) {l : List Qq} (hm : ∀ v ∈ l, v ∈ o.fc1) (hf : l.filter Q0a = o.fc1.filter Q0a) {ar : Qy} {os : List Qu} (hos : os = s.fa9.set i (Qu.mk o.fID l) ∨ (l = [] ∧ os = s.fa9.eraseIdx i)) : Kp s { s with fa9 := os, fc2 := ar } ∧ Sv { s with fa9 := os, fc2 := ar } := by
 have hob := List.mem_of_getElem? ho
 have hv : l.find? (veF s.fa1) = o.fc1.find? (veF s.fa1) := Nq (q := Q0a) hf (fun x hx e => Qbt (h.vt o hob) (hm x hx) e) (fun x hx e => Qbt (h.vt o hob) hx e)
 refine ⟨⟨rfl, rfl, fun n => Qqz (fun id => ?_) n⟩, ?_⟩
 ·have fo : o.fID = id → s.fa9.find? (obF id) = some o := by
   intro e
   have := Q4i (o' := o) ho rfl id h.id
   rw [if_pos e] at this
   rw [← this]
   congr 1
   apply List.ext_getElem?
   intro k
   rw [List.getElem?_set]
   split
   ·rename_i hk; subst hk; simp [ho]; exact (List.getElem?_eq_some_iff.1 ho).1
   ·rfl
  rcases hos with rfl | ⟨rfl, rfl⟩
  ·rw [Q4i (o' := Qu.mk o.fID l) ho rfl id h.id]
   by_cases e : o.fID = id
   ·rw [if_pos e, fo e]
    simp only [Option.bind_some]
    rw [hv]
   ·rw [if_neg e]
  ·rw [Qjf ho id h.id]
   by_cases e : o.fID = id
   ·rw [if_pos e, fo e]
    simp only [Option.bind_some, Option.bind_none]
    rw [← hv]; rfl
   ·rw [if_neg e]
 ·rcases hos with rfl | ⟨rfl, rfl⟩
  ·exact { bt := h.bt, vt := AF h.vt (fun v hv => h.vt o hob v (hm v hv)), id := Q8z ho rfl h.id, la := AF h.la (h.la o hob), l0 := h.l0, lc := h.lc }
  ·have sub : (s.fa9.eraseIdx i).Sublist s.fa9 := List.eraseIdx_sublist _ _
   exact { bt := h.bt, vt := fun x hx => h.vt x (sub.subset hx), id := h.id.sublist sub, la := fun x hx => h.la x (sub.subset hx), l0 := h.l0, lc := h.lc }
def KS (s t : Q2) : Prop := Sv s → Kp s t ∧ Sv t
theorem KS.refl (s : Q2) : KS s s := fun h => ⟨Kp.refl _, h⟩
theorem KS.trans {s t u : Q2} (h : KS s t) (k : KS t u) : KS s u := fun x => ⟨(h x).1.trans (k (h x).2).1, (k (h x).2).2⟩
theorem ks_ {s t : Q2} (h : KS s t) : KS s t := h
def Shw (s : Q2) (ns : List ByteArray) (vs : List Int) : Prop := vs.length = ns.length ∧ ∀ (i : Nat) n v, ns[i]? = some n → vs[i]? = some v → ∃ p, view s n s.fa1 = some p ∧ v = p.2.fd3
def VerP (s : Q2) (n : ByteArray) (c : Int) (r : Int × Int × Int) : Prop := c = s.fa1 → (view s n c = none ∧ r.2.2 ≠ 0) ∨ ∃ p, view s n c = some p ∧ r.2.1 = p.2.fd3 ∧ r.2.2 = 0
def M4 (s : Q2) (l : List ByteArray) (i : Int) (vs : List Int) : Prop := Shw s (l.take i.toNat) vs
theorem M4.nil {s : Q2} {l : List ByteArray} : M4 s l 0 [] := ⟨by simp, fun i n v h => by simp at h⟩
theorem M4.fin {s : Q2} {l : List ByteArray} {i : Int} {vs : List Int} (h : M4 s l i vs) (k : (l.length : Int) ≤ i) : Shw s l vs := by
 unfold M4 at h; rwa [List.take_of_length_le (by omega)] at h
theorem M4.app {s : Q2} {l : List ByteArray} {i : Int} {vs : List Int} {n : ByteArray} {r : Int × Int × Int} (h : M4 s l i vs) (h0 : 0 ≤ i) (hn : l[i.toNat]? = some n) (hv : VerP s n s.fa1 r) (he : r.2.2 = 0) (hi : i ≤ 2000000) : M4 s l (IntKind.i64.wrap (i + 1)) (vs ++ [r.2.1]) := by
 rw [Zp (by omega)]
 have e : (i + 1).toNat = i.toNat + 1 := by omega
 have hb := (List.getElem?_eq_some_iff.1 hn).1
 have hl : vs.length = i.toNat := by have := h.1; rw [List.length_take] at this; omega
 unfold M4
 rw [e, List.take_add_one, hn]
 refine ⟨by simp [hl]; omega, fun k m v h1 h2 => ?_⟩
 have kb : k < vs.length + 1 := by have := (List.getElem?_eq_some_iff.1 h2).1; simpa using this
 by_cases hk : k < vs.length
 ·rw [List.getElem?_append_left hk] at h2
  rw [List.getElem?_append_left (by rw [List.length_take]; omega)] at h1
  exact h.2 k m v h1 h2
 ·have ke : k = vs.length := by omega
  subst ke
  rw [List.getElem?_append_right (by rw [List.length_take]; omega)] at h1
  rw [List.getElem?_append_right (by omega)] at h2
  rw [List.length_take] at h1
  have z : vs.length - min i.toNat l.length = 0 := by omega
  rw [z] at h1
  simp at h1 h2
  subst h1 h2
  rcases hv rfl with ⟨_, c⟩ | ⟨q, a, b, _⟩
  ·exact absurd he c
  ·exact ⟨q, a, b⟩
theorem Shw.kp {s t : Q2} {ns : List ByteArray} {vs : List Int} (h : Shw s ns vs) (k : Kp s t) : Shw t ns vs := ⟨h.1, fun i n v h1 h2 => let ⟨p, a, b⟩ := h.2 i n v h1 h2; ⟨p, (k.v n).trans a, b⟩⟩
def KE (s t : Q2) : Prop := (Sv s → Sv t) ∧ t.fq = s.fq ∧ (t = s ∨ s.fa1 < t.fa1)
theorem KE.i {s t : Q2} (h : Sv s → Sv t) (g : t.fq = s.fq) (d : t = s ∨ s.fa1 < t.fa1) : KE s t := ⟨h, g, d⟩
def YE (s : Q2) (r : Qm) : Prop := Sv s → r.f8.fq = s.fq ∧ Sv r.f8 ∧ (r.ff8 = false → Kp s r.f8) ∧ (Kp s r.f8 ∨ s.fa1 < r.f8.fa1)
theorem YE.on {s t : Q2} {r : Qm} (e : r.f8 = t) (h : Sv s → Kp s t ∧ Sv t) : YE s r := fun hs => ⟨by rw [e]; exact (h hs).1.g, by rw [e]; exact (h hs).2, fun _ => by rw [e]; exact (h hs).1, .inl (by rw [e]; exact (h hs).1)⟩
def stq (p : Int × Int × Int × Int × Int × Int × Int × Int × Int × (List Qu) × (List Qg) × (List QD) × Int × (List Qx)) : Q2 := (Q2.mk (Qo.mk (p.1) (p.2.1) (p.2.2.1) (p.2.2.2.1) (p.2.2.2.2.1) (p.2.2.2.2.2.1) (p.2.2.2.2.2.2.1)) (p.2.2.2.2.2.2.2.1) (p.2.2.2.2.2.2.2.2.1) (p.2.2.2.2.2.2.2.2.2.1) (p.2.2.2.2.2.2.2.2.2.2.1) (p.2.2.2.2.2.2.2.2.2.2.2.1) (Qy.mk (p.2.2.2.2.2.2.2.2.2.2.2.2.1) (p.2.2.2.2.2.2.2.2.2.2.2.2.2)))
def LfO (m : Qe) : Prop := 0 ≤ m.fd8 ∧ m.fd8 ≤ 200000000
def BtP (s : Q2) (c : Int) (nm : ByteArray) (n : Int) (m : Qe) (r : Qm) : Prop :=
 (m.fd0 = 0 → r.ff8 = false → r.ff.fd0 = 1 ∧ r.ff.fd8 = n ∧ r.ff.fg4 = s.fa1 ∧ Shw s [nm] r.ff.fc1) ∧
 (m.fd0 = 1 → LfO m → r.ff8 = false ∧ r.ff.fg4 = m.fg4 ∧ r.ff.fc1 = m.fc1 ∧ r.ff.fd8 = max (m.fd8 - max c 1) 0 ∧ r.ff.fd0 = (if r.ff.fd8 = 0 then 2 else 1)) ∧
 (m.fd0 ≠ 0 → m.fd0 ≠ 1 → (Shw s [nm] m.fc1 → r.ff8 = true) ∧ (r.ff8 = false → r.ff.fd0 = 0))
def clF (n p : Int) : Int := if n < 0 ∨ p < 1 then 0 else if n.tmod p > 0 then IntKind.i64.wrap (IntKind.i64.wrap (n.tdiv p) + 1) else IntKind.i64.wrap (n.tdiv p)
def pgF (n p : Int) : Int := if (n < 0 ∨ p < 1) ∨ p > 1024 then 0 else clF n p
def ImP (c : Qo) (n : Int) (m : Qe) (r : Qm) : Prop :=
 (m.fd0 = 0 → r.ff8 = false → r.ff.fd0 = 1 ∧ r.ff.fd8 = pgF n c.fb3) ∧
 (m.fd0 = 1 → LfO m → r.ff8 = false → (r.ff.fd0 = 1 ∧ 0 < r.ff.fd8 ∧ r.ff.fd8 = m.fd8 - max c.fb4 1) ∨ r.ff.fd0 = 2) ∧
 (m.fd0 ≠ 0 → m.fd0 ≠ 1 → r.ff8 = true)
def OpP (c n : Int) (m : Qe) (r : Qm) : Prop :=
 (m.fd0 = 0 → r.ff8 = false → r.ff.fd0 = 1 ∧ r.ff.fd8 = n) ∧
 (m.fd0 ≠ 0 → LfO m → r.ff8 = false → r.ff.fd0 = m.fd0 ∧ 0 < r.ff.fd8 ∧ r.ff.fd8 = m.fd8 - max c 1)
def LfI (m : Qe) (c i l : Int) : Prop := LfO m → l = m.fd8 - i ∧ i ≤ max c 1 ∧ 0 ≤ l
theorem LfI.z {m : Qe} {c : Int} : LfI m c 0 m.fd8 := fun h => ⟨by omega, by omega, h.1⟩
theorem LfI.s {m : Qe} {c i l : Int} (h : LfI m c i l) (h0 : 0 ≤ i) (hi : i < Kt c 1) (hc : c ≤ 64) (hl : 0 < l) : LfI m c (IntKind.i64.wrap (i + 1)) (IntKind.i64.wrap (l - 1)) := fun k => by
 obtain ⟨a, b, d⟩ := h k
 have := k.1; have := k.2
 rw [YW] at hi
 rw [Zp (by omega), Zp (by omega)]
 exact ⟨by omega, by omega, by omega⟩
theorem BtP.dn {s : Q2} {c n : Int} {nm : ByteArray} {m : Qe} {r : Qm} (h : r.ff8 = true) (p : m.fd0 ≠ 1) : BtP s c nm n m r := ⟨fun _ k => (by rw [h] at k; cases k), fun q => absurd q p, fun _ _ => ⟨fun _ => h, fun k => (by rw [h] at k; cases k)⟩⟩
theorem BtP.one {s : Q2} {c n i : Int} {nm : ByteArray} {m : Qe} {r : Qm} (p1 : m.fd0 = 1) (hd : r.ff8 = false) (hb : r.ff.fg4 = m.fg4) (hv : r.ff.fc1 = m.fc1) (hl : LfI m c i r.ff.fd8) (hx : ¬ (i < Kt c 1 ∧ 0 < r.ff.fd8)) (hp : (r.ff.fd8 = 0 ∧ r.ff.fd0 = 2) ∨ (r.ff.fd8 ≠ 0 ∧ r.ff.fd0 = 1)) : BtP s c nm n m r := by
 refine ⟨fun h => by omega, fun _ hf => ⟨hd, hb, hv, ?_, ?_⟩, fun _ h => absurd p1 h⟩
 ·obtain ⟨a, b, d⟩ := hl hf
  rw [YW] at hx
  omega
 ·split <;> omega
theorem ImP.dn {c : Qo} {n : Int} {m : Qe} {r : Qm} (h : r.ff8 = true) : ImP c n m r := ⟨fun _ k => (by rw [h] at k; cases k), fun _ _ k => (by rw [h] at k; cases k), fun _ _ => h⟩
theorem ImP.z {c : Qo} {n : Int} {m : Qe} {r : Qm} (p : m.fd0 = 0) (h1 : r.ff.fd0 = 1) (h2 : r.ff.fd8 = pgF n c.fb3) : ImP c n m r := ⟨fun _ _ => ⟨h1, h2⟩, fun h => by omega, fun h => absurd p h⟩
theorem Qjh {a c : Int} (h : 0 ≤ a ∧ a ≤ 200000000) (hc : c ≤ 64) (k : Kt (IntKind.i64.wrap (a - Kt c 1)) 0 > 0) : Kt (IntKind.i64.wrap (a - Kt c 1)) 0 = a - max c 1 ∧ 0 < a - max c 1 := by
 rw [YW, YW] at k ⊢
 rw [Zp (by omega)] at k ⊢
 omega
theorem ImP.o {c : Qo} {n : Int} {m : Qe} {r : Qm} (p : m.fd0 = 1) (h1 : r.ff.fd0 = m.fd0) (h2 : r.ff.fd8 = Kt (IntKind.i64.wrap (m.fd8 - Kt c.fb4 1)) 0) (hc : c.fb4 ≤ 64) (k : Kt (IntKind.i64.wrap (m.fd8 - Kt c.fb4 1)) 0 > 0) : ImP c n m r := ⟨fun h => by omega, fun _ hf _ => .inl ⟨by omega, by rw [h2]; exact k, by rw [h2]; exact (Qjh hf hc k).1⟩, fun _ h => absurd p h⟩
theorem ImP.t {c : Qo} {n : Int} {m : Qe} {r : Qm} (p : m.fd0 = 1) (h1 : r.ff.fd0 = 2) : ImP c n m r := ⟨fun h => by omega, fun _ _ _ => .inr h1, fun _ h => absurd p h⟩
theorem OpP.dn {c n : Int} {m : Qe} {r : Qm} (h : r.ff8 = true) : OpP c n m r := ⟨fun _ k => (by rw [h] at k; cases k), fun _ _ k => (by rw [h] at k; cases k)⟩
theorem OpP.z {c n : Int} {m : Qe} {r : Qm} (p : m.fd0 = 0) (h1 : r.ff.fd0 = 1) (h2 : r.ff.fd8 = n) : OpP c n m r := ⟨fun _ _ => ⟨h1, h2⟩, fun h => absurd p h⟩
theorem OpP.o {c n : Int} {m : Qe} {r : Qm} (p : ¬ m.fd0 = 0) (h1 : r.ff.fd0 = m.fd0) (h2 : r.ff.fd8 = Kt (IntKind.i64.wrap (m.fd8 - Kt c 1)) 0) (hc : c ≤ 64) (k : Kt (IntKind.i64.wrap (m.fd8 - Kt c 1)) 0 > 0) : OpP c n m r := ⟨fun h => absurd h p, fun _ hf _ => ⟨h1, by rw [h2]; exact k, by rw [h2]; exact (Qjh hf hc k).1⟩⟩
theorem KS.tr {s t u : Q2} (k : KS t u) (h : KS s t) : KS s u := h.trans k
theorem YE.e3 {s t u : Q2} {r : Qm} (e : r.f8 = u) (k : KS t u) (h : KS s t) : YE s r := YE.on e (h.trans k)
theorem YE.e2 {s t u : Q2} {r : Qm} (e : r.f8 = u) (hd : r.ff8 = true) (k : KS t u) (h : KE s t) : YE s r := fun hs => by
 have kt := k (h.1 hs)
 rw [e]
 refine ⟨kt.1.g.trans h.2.1, kt.2, fun c => (by rw [hd] at c; cases c), ?_⟩
 rcases h.2.2 with e2 | e2
 ·subst e2; exact .inl kt.1
 ·exact .inr (by rw [kt.1.c]; exact e2)
theorem YE.o {s t : Q2} {r : Qm} (e : r.f8 = t) (h : KS s t) : YE s r := YE.on e h
theorem YE.e {s t : Q2} {r : Qm} (e : r.f8 = t) (hd : r.ff8 = true) (h : KS s t) : YE s r := YE.on e h
theorem YE.e1 {s t : Q2} {r : Qm} (e : r.f8 = t) (hd : r.ff8 = true) (h : KE s t) : YE s r := YE.e2 e hd (KS.refl _) h
theorem yx_ {p : Prop} (h : p := by
  repeat (first | with_reducible refine Np ?_ | (with_reducible intro h; first | subst h | (simp only [decide_eq_true_eq, decide_eq_false_iff_not, Bool.not_eq_eq_eq_not, Bool.not_true, Bool.not_false, Fl, Co, Bool.and_eq_true, Bool.or_eq_true, Bool.or_eq_false_iff, Bool.and_eq_false_imp, beq_iff_eq, bne_iff_ne, beq_eq_false_iff_ne, bne_eq_false_iff_eq, Bool.true_eq_false, Bool.false_eq_true, reduceCtorEq, ix] at h) | skip))
  repeat' first
    | with_reducible assumption
    | with_reducible exact KS.refl _
    | (with_reducible refine ks_ ?_; assumption)
    | with_reducible exact YE.e (by assumption) (by assumption) (by first | with_reducible exact KS.refl _ | assumption)
    | with_reducible exact YE.e1 (by assumption) (by assumption) (by assumption)
    | with_reducible exact M4.nil
    | exact M4.app (by assumption) (by assumption) (by assumption) (by assumption) (by assumption) (by omega)
    | exact M4.fin (by assumption) (by omega)
    | exact KS.tr (by assumption) (by assumption)
    | exact YE.e3 (by assumption) (by assumption) (by assumption)
    | with_reducible exact LfI.z
    | exact LfI.s (by assumption) (by assumption) (by omega) (by omega) (by omega)
    | exact BtP.dn (by assumption) (by omega)
    | exact BtP.one (by assumption) rfl rfl rfl (by assumption) (by dsimp only; omega) (by dsimp only; omega)
    | exact ImP.dn (by first | assumption | rfl)
    | exact ImP.z (by assumption) rfl (by first | assumption | rfl)
    | exact ImP.o (by assumption) rfl rfl (by assumption) (by assumption)
    | exact ImP.t (by assumption) rfl
    | exact OpP.dn (by first | assumption | rfl)
    | exact OpP.z (by assumption) rfl rfl
    | exact OpP.o (by assumption) rfl rfl (by assumption) (by assumption)
    | exact YE.e2 (by assumption) (by assumption) (by assumption) (by assumption)
    | exact YE.e rfl rfl (by first | with_reducible exact KS.refl _ | assumption)
    | exact YE.o rfl (by first | with_reducible exact KS.refl _ | assumption)
    | exact YE.e1 rfl (by assumption) (by assumption)
    | (with_reducible refine KL (fun h => ?_) (fun h => ?_)
       all_goals first | (simp only [decide_eq_true_eq, decide_eq_false_iff_not, Bool.not_eq_eq_eq_not, Bool.not_true, Bool.not_false, Fl, Co, Bool.and_eq_true, Bool.or_eq_true, Bool.or_eq_false_iff, Bool.and_eq_false_imp, beq_iff_eq, bne_iff_ne, beq_eq_false_iff_ne, bne_eq_false_iff_eq, Bool.true_eq_false, Bool.false_eq_true, reduceCtorEq, ix] at h) | skip
       all_goals first | (with_reducible refine fwd (by with_reducible assumption) h ?_; repeat (first | with_reducible refine Np ?_ | (with_reducible intro h; first | subst h | (simp only [decide_eq_true_eq, decide_eq_false_iff_not, Bool.not_eq_eq_eq_not, Bool.not_true, Bool.not_false, Fl, Co, Bool.and_eq_true, Bool.or_eq_true, Bool.or_eq_false_iff, Bool.and_eq_false_imp, beq_iff_eq, bne_iff_ne, beq_eq_false_iff_ne, bne_eq_false_iff_eq, Bool.true_eq_false, Bool.false_eq_true, reduceCtorEq, ix] at h) | skip))) | skip)
    | with_reducible refine XH ?_
    | with_reducible refine Fo ?_
    | (with_reducible apply lvi
       case' h => (repeat (first | with_reducible refine Np ?_ | (with_reducible intro h; first | subst h | (simp only [decide_eq_true_eq, decide_eq_false_iff_not, Bool.not_eq_eq_eq_not, Bool.not_true, Bool.not_false, Fl, Co, Bool.and_eq_true, Bool.or_eq_true, Bool.or_eq_false_iff, Bool.and_eq_false_imp, beq_iff_eq, bne_iff_ne, beq_eq_false_iff_ne, bne_eq_false_iff_eq, Bool.true_eq_false, Bool.false_eq_true, reduceCtorEq, ix] at h) | skip))))
    | (with_reducible apply Un
       case' k => (repeat (first | with_reducible refine Np ?_ | (with_reducible intro h; first | subst h | (simp only [decide_eq_true_eq, decide_eq_false_iff_not, Bool.not_eq_eq_eq_not, Bool.not_true, Bool.not_false, Fl, Co, Bool.and_eq_true, Bool.or_eq_true, Bool.or_eq_false_iff, Bool.and_eq_false_imp, beq_iff_eq, bne_iff_ne, beq_eq_false_iff_ne, bne_eq_false_iff_eq, Bool.true_eq_false, Bool.false_eq_true, reduceCtorEq, ix] at h) | skip))))
    | with_reducible refine ixs (by with_reducible assumption) (by with_reducible assumption) ?_
    | with_reducible refine ixt (by with_reducible assumption) (by with_reducible assumption) ?_
    | (with_reducible apply ixq (by with_reducible assumption)
       case' k => (repeat (first | with_reducible refine Np ?_ | (with_reducible intro h; first | subst h | (simp only [decide_eq_true_eq, decide_eq_false_iff_not, Bool.not_eq_eq_eq_not, Bool.not_true, Bool.not_false, Fl, Co, Bool.and_eq_true, Bool.or_eq_true, Bool.or_eq_false_iff, Bool.and_eq_false_imp, beq_iff_eq, bne_iff_ne, beq_eq_false_iff_ne, bne_eq_false_iff_eq, Bool.true_eq_false, Bool.false_eq_true, reduceCtorEq, ix] at h) | skip))))
    | (with_reducible apply ixi
       case' k => (repeat (first | with_reducible refine Np ?_ | (with_reducible intro h; first | subst h | (simp only [decide_eq_true_eq, decide_eq_false_iff_not, Bool.not_eq_eq_eq_not, Bool.not_true, Bool.not_false, Fl, Co, Bool.and_eq_true, Bool.or_eq_true, Bool.or_eq_false_iff, Bool.and_eq_false_imp, beq_iff_eq, bne_iff_ne, beq_eq_false_iff_ne, bne_eq_false_iff_eq, Bool.true_eq_false, Bool.false_eq_true, reduceCtorEq, ix] at h) | skip))))
    | (with_reducible apply bxi
       case' k => (repeat (first | with_reducible refine Np ?_ | (with_reducible intro h; first | subst h | (simp only [decide_eq_true_eq, decide_eq_false_iff_not, Bool.not_eq_eq_eq_not, Bool.not_true, Bool.not_false, Fl, Co, Bool.and_eq_true, Bool.or_eq_true, Bool.or_eq_false_iff, Bool.and_eq_false_imp, beq_iff_eq, bne_iff_ne, beq_eq_false_iff_ne, bne_eq_false_iff_eq, Bool.true_eq_false, Bool.false_eq_true, reduceCtorEq, ix] at h) | skip))))
    | (with_reducible apply nxg
       case' k => (repeat (first | with_reducible refine Np ?_ | (with_reducible intro h; first | subst h | (simp only [decide_eq_true_eq, decide_eq_false_iff_not, Bool.not_eq_eq_eq_not, Bool.not_true, Bool.not_false, Fl, Co, Bool.and_eq_true, Bool.or_eq_true, Bool.or_eq_false_iff, Bool.and_eq_false_imp, beq_iff_eq, bne_iff_ne, beq_eq_false_iff_ne, bne_eq_false_iff_eq, Bool.true_eq_false, Bool.false_eq_true, reduceCtorEq, ix] at h) | skip))))
    | (with_reducible apply ixg
       case' k => (repeat (first | with_reducible refine Np ?_ | (with_reducible intro h; first | subst h | (simp only [decide_eq_true_eq, decide_eq_false_iff_not, Bool.not_eq_eq_eq_not, Bool.not_true, Bool.not_false, Fl, Co, Bool.and_eq_true, Bool.or_eq_true, Bool.or_eq_false_iff, Bool.and_eq_false_imp, beq_iff_eq, bne_iff_ne, beq_eq_false_iff_ne, bne_eq_false_iff_eq, Bool.true_eq_false, Bool.false_eq_true, reduceCtorEq, ix] at h) | skip))))
    | (with_reducible apply bxg
       case' k => (repeat (first | with_reducible refine Np ?_ | (with_reducible intro h; first | subst h | (simp only [decide_eq_true_eq, decide_eq_false_iff_not, Bool.not_eq_eq_eq_not, Bool.not_true, Bool.not_false, Fl, Co, Bool.and_eq_true, Bool.or_eq_true, Bool.or_eq_false_iff, Bool.and_eq_false_imp, beq_iff_eq, bne_iff_ne, beq_eq_false_iff_ne, bne_eq_false_iff_eq, Bool.true_eq_false, Bool.false_eq_true, reduceCtorEq, ix] at h) | skip))))
    | with_reducible refine And.intro ?_ ?_
    | dsimp only
    | with_reducible refine sh0 ?_
    | with_reducible refine sh1 ?_
    | with_reducible refine sh2 ?_
    | with_reducible refine sh3 ?_
    | with_reducible refine sh4 (by with_reducible assumption) ?_
    | with_reducible refine sr0 ?_ ?_
    | with_reducible refine sr1 ?_ ?_
    | with_reducible refine mu0 ?_ ?_
    | with_reducible refine mu2 ?_ ?_
    | with_reducible refine mu3 ?_ ?_
    | with_reducible refine mu4 (by with_reducible assumption) ?_ ?_
    | with_reducible refine mu5 (by with_reducible assumption) ?_ ?_
    | with_reducible refine ce0 (by with_reducible assumption) ?_ ?_ ?_ ?_
    | with_reducible refine ce1 (by with_reducible assumption) ?_ ?_ ?_ ?_
    | with_reducible refine co0 ?_ ?_
    | with_reducible refine co1 ?_ ?_
    | with_reducible exact xr0
    | with_reducible exact w8a
    | with_reducible exact sz0
    | with_reducible refine sz1 ?_
    | with_reducible refine sh6 ?_
    | with_reducible exact w8b
    | with_reducible exact bo0
    | with_reducible refine mu6 ?_ ?_
    | with_reducible exact YW _ _
    | with_reducible exact sI_b
    | with_reducible exact xr1
    | with_reducible refine tm0 ?_
    | with_reducible refine tm1 ?_ ?_
    | with_reducible refine tm2 ?_ ?_
    | (simp only [List.length_replicate, Int.reduceToNat]; done)
    | with_reducible refine ZP ?_ ?_
    | with_reducible refine KO ?_
    | with_reducible refine CW ?_ ?_
    | with_reducible exact VS
    | with_reducible exact Qud
    | with_reducible refine Que (by with_reducible assumption) (by with_reducible assumption) (by with_reducible assumption) ?_ ?_
    | with_reducible refine Tf ?_
    | with_reducible refine Quf (by with_reducible assumption) ?_
    | with_reducible refine Tg ?_
    | with_reducible refine Quc ?_
    | with_reducible refine AF ?_ ?_
    | with_reducible exact Qbb
    | with_reducible refine Qhx ?_
    | exact Or.inl (by with_reducible assumption)
    | exact Or.inr (by with_reducible assumption)
    | with_reducible refine Or.inr ?_
    | with_reducible refine Np ?_
    | (with_reducible intro h
       first | subst h | (simp only [decide_eq_true_eq, decide_eq_false_iff_not, Bool.not_eq_eq_eq_not, Bool.not_true, Bool.not_false, Fl, Co, Bool.and_eq_true, Bool.or_eq_true, Bool.or_eq_false_iff, Bool.and_eq_false_imp, beq_iff_eq, bne_iff_ne, beq_eq_false_iff_ne, bne_eq_false_iff_eq, Bool.true_eq_false, Bool.false_eq_true, reduceCtorEq, ix] at h) | skip
       first | (with_reducible refine fwm (by with_reducible assumption) h ?_; repeat (first | with_reducible refine Np ?_ | (with_reducible intro h; first | subst h | (simp only [decide_eq_true_eq, decide_eq_false_iff_not, Bool.not_eq_eq_eq_not, Bool.not_true, Bool.not_false, Fl, Co, Bool.and_eq_true, Bool.or_eq_true, Bool.or_eq_false_iff, Bool.and_eq_false_imp, beq_iff_eq, bne_iff_ne, beq_eq_false_iff_ne, bne_eq_false_iff_eq, Bool.true_eq_false, Bool.false_eq_true, reduceCtorEq, ix] at h) | skip))) | (with_reducible refine fwd (by with_reducible assumption) h ?_; repeat (first | with_reducible refine Np ?_ | (with_reducible intro h; first | subst h | (simp only [decide_eq_true_eq, decide_eq_false_iff_not, Bool.not_eq_eq_eq_not, Bool.not_true, Bool.not_false, Fl, Co, Bool.and_eq_true, Bool.or_eq_true, Bool.or_eq_false_iff, Bool.and_eq_false_imp, beq_iff_eq, bne_iff_ne, beq_eq_false_iff_ne, bne_eq_false_iff_eq, Bool.true_eq_false, Bool.false_eq_true, reduceCtorEq, ix] at h) | skip))) | skip)
    | (with_reducible refine idJ ?_
       with_reducible apply_assumption only [*])
    | omega
    | (simp only [OQ, zE, zI, zCm, zLl, zB, zP, IN, okV, oB, IntKind.wrap_i64, IntKind.wrap_u64, oN, oK, oE, Qhy, YW, Q01, ByteArray.size_empty, List.length_append, List.length_cons, List.length_nil, List.length_set, List.length_map, List.length_take, List.length_drop] at *; first | omega | grind)
    | with_reducible exact trivial
    | (simp only [OQ, zE, zI, zCm, zLl, zB, zP, IN, okV, List.length_nil, ByteArray.size_empty]; done)
    | (simp only [OQ, zE, zI, zCm, zLl, zB, zP, IN, okV, List.length_nil, ByteArray.size_empty]; omega)
    | with_reducible rfl
    | grind
    | (with_reducible apply_assumption only [*]
       all_goals first | with_reducible assumption | omega | (simp only [Bool.not_eq_true, Bool.not_eq_false, decide_eq_true_eq, decide_eq_false_iff_not]; omega))
  all_goals fail) : p := h
theorem nx1 {R : Type} {W W' : (R → Prop) → Prop} [Gm W] {Pre : Prop} {Post : R → Prop} (hW : ∀ Q, W Q = W' Q) (h : Pre → W' Post := by exact yx_) : Nx W Pre Post := ⟨fun hp => ex_ (by rw [hW]; exact h hp)⟩
theorem Qy0 {σ : Type} {I : σ → Prop} {m : σ → Nat} {S : σ → St → Option St} {step : (σ → Prop) → σ → Prop} {s : σ} (I2 : σ → Prop) (h0 : I s) (h1 : I2 s) (h : ∀ s, I s → I2 s → ∀ X : σ → Prop, (∀ s', I s' → I2 s' → m s' < m s → Jp X s') → step (Jp X) s) : lv I m S step s :=
 XM (I := fun k s => (I s ∧ I2 s) ∧ k = m s) (fun k s ⟨⟨hi, h2⟩, hk⟩ X hX => h s hi h2 X fun s' hi' h2' hm => hX (m s') s' (by rw [hk]; exact hm) ⟨⟨hi', h2'⟩, rfl⟩) ⟨⟨h0, h1⟩, rfl⟩
set_option maxRecDepth 100000
set_option maxHeartbeats 4000000
abbrev B6 : Prop := ∀ {a0 a1 a2}, Nx (Zj a0 a1 a2) (True) (fun r => r = decide (a1 ≤ a0 ∧ a0 ≤ a2))
abbrev B7 : Prop := ∀ {a0 a1 a2}, Nx (Zn a0 a1 a2) (True) (fun r => r = decide (a1 ≤ a0 ∧ a0 ≤ a2))
abbrev ZM : Prop := ∀ {a0 a1 a2}, Nx (Qz a0 a1 a2) (True) (fun r => r = decide (a1 ≤ a0 ∧ a0 ≤ a2))
abbrev B8 : Prop := ∀ {a0 a1 a2}, Nx (Zd a0 a1 a2) (True) (fun r => r = decide (a1 ≤ a0 ∧ a0 ≤ a2))
abbrev W8 : Prop := ∀ {a0}, Nx (Zw a0) (True) (fun r => (r = 0 → TZ a0) ∧ (Qxj a0 → r = 0))
abbrev Nr : Prop := ∀ {a0}, Nx (Yf a0) (True) (fun r => (r.2 = 0 → UG r.1 ∧ r.1.fq = a0) ∧ (Qxj a0 → r.2 = 0) ∧ (r.2 = 0 → r.1.fa9 = [] ∧ r.1.fb6 = [] ∧ r.1.fd6 = 0 ∧ r.1.fa1 = 0 ∧ r.1.fq = a0))
abbrev CN : Prop := ∀ {a0}, Nx (K3 a0) (1 ≤ a0 ∧ a0 ≤ 64) (fun r => (r.1.length : Int) = a0 ∧ ∀ x ∈ r.1, zSe x ∧ x.fg3 = false)
abbrev Wm : Prop := ∀ {a0 a1 a2}, Nx (Ku a0 a1 a2) (True) (fun r => r = OZ a0 a1 a2)
abbrev Wn : Prop := ∀ {a0 a1}, Nx (Jf a0 a1) (a0.fb0.length ≤ 2000000) (fun r => -1 ≤ r ∧ r < (a0.fb0.length : Int) ∧ (0 ≤ r → ∃ p ∈ a0.fb0, p.fg9 = a1))
abbrev G2 : Prop := ∀ {a0 a1}, Nx (W4 a0 a1) (zAr a0) (fun r => zAr r.1)
abbrev CC : Prop := ∀ {a0 a1}, Nx (Xj a0 a1) (zAr a0) (fun r => zAr r.1)
abbrev G3 : Prop := ∀ {a0 a1}, Nx (Xv a0 a1) (zAr a0) (fun r => r.1.length ≤ 1024 ∧ bB r.1)
abbrev Yp : Prop := ∀ {a0}, Nx (ZA a0) (a0.length ≤ 2000000) (fun r => r = 0 → ∀ x ∈ a0, 1 ≤ x.fc9 ∧ x.fc9 ≤ 1024)
abbrev DK : Prop := ∀ {a0 a1}, Nx (Vj a0 a1) (a0.length ≤ 2000000) (fun r => r.1.length ≤ a0.length + 1 ∧ ∀ x ∈ r.1, zP x)
abbrev B9 : Prop := ∀ {a0 a1}, Nx (Ve a0 a1) (a0.length ≤ 2000000) (fun r => r.1.length ≤ a0.length ∧ ∀ x ∈ r.1, zP x)
abbrev DL : Prop := ∀ {a0}, Nx (KR a0) (True) (fun r => r = max a0 0)
abbrev Ai : Prop := ∀ {a0 a1 a2}, Nx (JP a0 a1 a2) (0 ≤ a2 ∧ a2 ≤ 1099511627776) (fun r => 0 ≤ r.1 ∧ r.1 ≤ a2 ∧ (0 ≤ a0 → 0 ≤ a1 → r.1 = min (a0 + a1) a2))
abbrev ES : Prop := ∀ {a0}, Nx (VN a0) (a0.length ≤ 2000000 ∧ ∀ x ∈ a0, zP x) (fun r => (a0.length : Int) ≤ r)
abbrev U7 : Prop := ∀ {a0 a1 a2}, Nx (Vq a0 a1 a2) (a0.length ≤ 2000000) (fun r => True)
abbrev Uy : Prop := ∀ {a0 a1}, Nx (K7 a0 a1) (a0.length ≤ 2000000) (fun r => (0 ≤ r.1 ∧ (r.2 = true → r.1 < (a0.length : Int))) ∧ (r.2 = false → a0.find? (veF a1) = none) ∧ (r.2 = true → ∃ v, a0[r.1.toNat]? = some v ∧ a0.find? (veF a1) = some v))
abbrev Ba : Prop := ∀ {a0 a1 a2}, Nx (JA a0 a1 a2) (a0.length ≤ 2000000) (fun r => r = (match a0.find? (bnF a1 a2) with | some b => (b.fb9, true) | none => (0, false)))
abbrev D7 : Prop := ∀ {a0 a1}, Nx (Xx a0 a1) (a0.length ≤ 2000000) (fun r => -1 ≤ r ∧ r < (a0.length : Int))
abbrev Bb : Prop := ∀ {a0 a1}, Nx (Vo a0 a1) (a0.length ≤ 2000000) (fun r => True)
abbrev C6 : Prop := ∀ {a0 a1}, Nx (V4 a0 a1) (a0.length ≤ 2000000) (fun r => r.length = a0.length + 1 ∧ ∀ x ∈ r, x ∈ a0 ++ [a1])
abbrev DN : Prop := ∀ {a0 a1 a2}, Nx (KT a0 a1 a2) (True) (fun r => True)
abbrev V7 : Prop := ∀ {a0}, Nx (QP a0) (a0.size ≤ 2000000) (fun r => r = true → a0.size ≤ 16)
abbrev JF : Prop := ∀ {a0}, Nx (Z7 a0) (a0.length ≤ 2000000 ∧ ∀ x ∈ a0, zB x) (fun r => True)
abbrev Y1 : Prop := ∀ {a0}, Nx (K1 a0) (a0.length ≤ 2000000) (fun r => True)
abbrev G4 : Prop := ∀ {a0 a1 a2 a3}, Nx (ZU a0 a1 a2 a3) (a0.length ≤ 2000000 ∧ a1.size ≤ 2000000 ∧ ∀ x ∈ a0, zB x) (fun r => (r.1.length ≤ a0.length + 1 ∧ ∀ x ∈ r.1, zB x) ∧ ∀ x ∈ r.1, x ∈ a0 ∨ x.fTo = 0)
abbrev DO : Prop := ∀ {a0 a1 a2}, Nx (XU a0 a1 a2) (a0.length ≤ 2000000 ∧ a1.size ≤ 2000000 ∧ ∀ x ∈ a0, zB x) (fun r => (r.1.length ≤ a0.length ∧ ∀ x ∈ r.1, zB x) ∧ ∀ x ∈ r.1, x ∈ a0 ∨ x.fTo = a2)
abbrev DR : Prop := ∀ {a0 a1 a2 a3}, Nx (XV a0 a1 a2 a3) (a0.length ≤ 2000000 ∧ (a1.size ≤ 2000000 ∧ a2.size ≤ 2000000) ∧ ∀ x ∈ a0, zB x) (fun r => (r.1.length ≤ a0.length + 1 ∧ ∀ x ∈ r.1, zB x) ∧ ∀ x ∈ r.1, x ∈ a0 ∨ x.fTo = a3 ∨ x.fTo = 0)
abbrev ET : Prop := ∀ {a0 a1}, Nx (Yx a0 a1) ((a0.length ≤ 2000000 ∧ a1.length ≤ 2000000) ∧ ∀ x ∈ a0, zB x) (fun r => (r.length ≤ a0.length ∧ ∀ x ∈ r, zB x) ∧ (∀ x ∈ r, x ∈ a0) ∧ r.filter IS = a0.filter IS)
abbrev WB : Prop := ∀ {a0 a1}, Nx (KC a0 a1) (a0.length ≤ 2000000 ∧ (∀ x ∈ a0, okV x) ∧ okV a1) (fun r => (r.1.length ≤ a0.length + 1 ∧ ∀ x ∈ r.1, okV x) ∧ ∀ x ∈ r.1, x ∈ a0 ∨ x.fTo = a1.fd3 ∨ x.fTo = 0)
abbrev Aj : Prop := ∀ {a0 a1}, Nx (JX a0 a1) (a0.length ≤ 2000000 ∧ (∀ x ∈ a0, okV x)) (fun r => (r.1.length ≤ a0.length ∧ ∀ x ∈ r.1, okV x) ∧ ∀ x ∈ r.1, x ∈ a0 ∨ x.fTo = a1)
abbrev WC : Prop := ∀ {a0 a1}, Nx (KF a0 a1) (a0.length ≤ 2000000 ∧ (∀ x ∈ a0, okV x)) (fun r => (r.1.length ≤ a0.length ∧ (∀ x ∈ r.1, okV x) ∧ okV r.2.1) ∧ (r.2.2 = 0 → (∀ x ∈ r.1, x ∈ a0) ∧ (r.2.1.fTo ≠ 0 → r.1.filter Q0a = a0.filter Q0a)))
abbrev D8 : Prop := ∀ {a0 a1}, Nx (ZT a0 a1) (a0.length ≤ 2000000) (fun r => r.length ≤ a0.length)
abbrev DT : Prop := ∀ {a0 a1}, Nx (XO a0 a1) (a0.length ≤ 2000000 ∧ a1.length ≤ 2000000) (fun r => r.length = a1.length ∧ ∀ (k : Nat), r[k]? = some true → k < a0.length)
abbrev C7 : Prop := ∀ {a0 a1}, Nx (Kf a0 a1) (a0.length ≤ 100000000 ∧ bB a0) (fun r => (∀ x ∈ r.1, zL x) ∧ r.1.length ≤ a0.length)
abbrev G5 : Prop := ∀ {a0}, Nx (Xu a0) (a0.length ≤ 2000000 ∧ ∀ x ∈ a0, zL x) (fun r => r.length ≤ 1024 * a0.length ∧ bB r)
abbrev C8 : Prop := ∀ {a0 a1}, Nx (V3 a0 a1) (zAr a0 ∧ bB a1) (fun r => zAr r.1)
abbrev Bc : Prop := ∀ {a0 a1}, Nx (VX a0 a1) (True) (fun r => r.1 = clF a0 a1)
abbrev C9 : Prop := ∀ {a0 a1}, Nx (VQ a0 a1) (True) (fun r => r.1 = pgF a0 a1)
abbrev Be : Prop := ∀ {a0 a1}, Nx (Jz a0 a1) (a0.fc3.length ≤ 2000000) (fun r => True)
abbrev Y7 : Prop := ∀ {a0 a1}, Nx (ZB a0 a1) (a0.fc3.length ≤ 2000000 ∧ 0 ≤ a0.fa1) (fun r => r ≠ 16 ∧ (a1 = a0.fa1 → r = 0))
abbrev Bf : Prop := ∀ {a0 a1}, Nx (JB a0 a1) (a0.length ≤ 2000000) (fun r => (-1 ≤ r ∧ r < (a0.length : Int)) ∧ (r < 0 → a0.find? (obF a1) = none) ∧ (0 ≤ r → ∃ o, a0[r.toNat]? = some o ∧ a0.find? (obF a1) = some o))
abbrev Y8 : Prop := ∀ {a0 a1 a2}, Nx (Zl a0 a1 a2) (UG a0) (fun r => ((0 ≤ r.1 ∧ (r.2.2 = true → r.1 < (a0.fa9.length : Int))) ∧ okV r.2.1) ∧ (r.2.2 = false → view a0 a1 a2 = none) ∧ (r.2.2 = true → ∃ o, a0.fa9[r.1.toNat]? = some o ∧ r.2.1 ∈ o.fc1 ∧ view a0 a1 a2 = some (o.fID, r.2.1)))
abbrev Xm : Prop := ∀ {a0 a1 a2}, Nx (Zh a0 a1 a2) (UG a0) (fun r => r.2.2 ≠ 16 ∧ VerP a0 a1 a2 r)
abbrev Bg : Prop := ∀ {a0 a1}, Nx (JC a0 a1) (UG a0 ∧ okV a1) (fun r => r.length ≤ a1.fb0.length ∧ ∀ x ∈ r, zL x)
abbrev Bh : Prop := ∀ {a0 a1 a2}, Nx (Vf a0 a1 a2) (UG a0) (fun r => r.1.length ≤ 67108864 ∧ bB r.1)
abbrev Wo : Prop := ∀ {a0 a1}, Nx (Z6 a0 a1) (UG a0) (fun r => True)
abbrev D9 : Prop := ∀ {a0}, Nx (VO a0) (UG a0) (fun r => r = (a0.fc2.fb0.length : Int))
abbrev Bj : Prop := ∀ {a0 a1 a2}, Nx (Kq a0 a1 a2) (UG a0 ∧ a1.size ≤ 2000000 ∧ a2.length ≤ 100000000 ∧ bB a2) (fun r => (UG r.1 ∧ r.2.2 ≠ 16) ∧ KE a0 r.1)
abbrev Hp : Prop := ∀ {a0 a1 a2}, Nx (U0 a0 a1 a2) (UG a0 ∧ a2.length ≤ 100000000 ∧ bB a2) (fun r => (UG r.1 ∧ r.2.2 ≠ 16) ∧ KE a0 r.1)
abbrev G6 : Prop := ∀ {a0 a1}, Nx (W7 a0 a1) (UG a0 ∧ a1.size ≤ 2000000) (fun r => (UG r.1 ∧ r.2.2 ≠ 16) ∧ KE a0 r.1)
abbrev DU : Prop := ∀ {a0 a1 a2}, Nx (XW a0 a1 a2) (UG a0 ∧ a1.size ≤ 2000000 ∧ a2.size ≤ 2000000) (fun r => (UG r.1 ∧ r.2.2 ≠ 16) ∧ KE a0 r.1)
abbrev Cl : Prop := ∀ {a0 a1}, Nx (Kw a0 a1) (UG a0) (fun r => (UG r.1 ∧ r.2 ≠ 16) ∧ KS a0 r.1)
abbrev UK : Prop := ∀ {a0 a1}, Nx (V1 a0 a1) (UG a0) (fun r => (UG r.1) ∧ KS a0 r.1)
abbrev DV : Prop := ∀ {a0 a1 a2}, Nx (XS a0 a1 a2) (UG a0) (fun r => (UG r.1) ∧ KS a0 r.1)
abbrev EU : Prop := ∀ {a0}, Nx (Yy a0) (UG a0) (fun r => (UG r.1) ∧ KS a0 r.1)
abbrev EV : Prop := ∀ {a0 a1}, Nx (YA a0 a1) (UG a0) (fun r => r.1.length ≤ 2000000)
abbrev G7 : Prop := ∀ {a0}, Nx (W6 a0) (True) (fun r => r.fa9 = a0.fa9 ∧ r.fc3 = a0.fc3)
abbrev Bl : Prop := ∀ {a0 a1}, Nx (VY a0 a1) (True) (fun r => True)
abbrev Ca : Prop := ∀ {a0}, Nx (V5 a0) (True) (fun r => True)
abbrev CE : Prop := ∀ {a0 a1}, Nx (Xi a0 a1) (a0.fc3.length ≤ 2000000) (fun r => True)
abbrev Jm : Prop := ∀ {a0}, Nx (Zx a0) (True) (fun r => r = true → a0.size ≤ 32)
abbrev ZN : Prop := ∀ {a0}, Nx (QB a0) (True) (fun r => r = 0 → a0.fd5.size ≤ 32)
abbrev Vs : Prop := ∀ {a0}, Nx (QE a0) (True) (fun r => (r = 0 → 1 ≤ a0.fa4 ∧ a0.fa4 ≤ 6) ∧ r ≠ 16)
abbrev Y2 : Prop := ∀ {a0}, Nx (ZZ a0) (True) (fun r => (r = 0 → a0.fa4 = 5 → 0 ≤ a0.fc9) ∧ (r = 0 → a0.fa4 = 2 → a0.fd5.size ≤ 32) ∧ (r = 0 → a0.fa4 = 6 → a0.fd5.size ≤ 32) ∧ r ≠ 16)
abbrev IT : Prop := ∀ {a0 a1}, Nx (QJ a0 a1) (a1.length ≤ 1000) (fun r => True)
abbrev G8 : Prop := ∀ {a0}, Nx (K6 a0) (True) (fun r => True)
abbrev EW : Prop := ∀ {a0 a1 a2}, Nx (Je a0 a1 a2) (zOp a0) (fun r => True)
abbrev Ft : Prop := ∀ {a0}, Nx (Z3 a0) (zOp a0) (fun r => r = 0 → 1 ≤ a0.fa4 ∧ a0.fa4 ≤ 17)
abbrev J0 : Prop := ∀ {a0}, Nx (Z2 a0) (True) (fun r => (r = 0 → oN a0.f9 ∧ oN a0.fb7) ∧ r ≠ 16)
abbrev ZH : Prop := ∀ {a0}, Nx (QH a0) (zCm a0) (fun r => (r = 0 → oCm a0) ∧ r ≠ 16)
abbrev K2 : Prop := ∀ {a0}, Nx (QS a0) (zLl a0) (fun r => (r = 0 → oLl a0) ∧ r ≠ 16)
abbrev Yq : Prop := ∀ {a0 a1}, Nx (ZY a0 a1) (a0.length ≤ 2000000) (fun r => -1 ≤ r ∧ r < (a0.length : Int))
abbrev Cb : Prop := ∀ {a0 a1}, Nx (XB a0 a1) (True) (fun r => True)
abbrev Ja : Prop := ∀ {a0}, Nx (Z9 a0) (zTp a0) (fun r => (r = 0 → oTp a0) ∧ r ≠ 16)
abbrev ZI : Prop := ∀ {a0}, Nx (QI a0) (zFr a0) (fun r => (r = 0 → oFr a0) ∧ r ≠ 16)
abbrev ZV : Prop := ∀ {a0}, Nx (QR a0) (zRk a0) (fun r => (r = 0 → oRk a0) ∧ r ≠ 16)
abbrev US : Prop := ∀ {a0 a1}, Nx (Jd a0 a1) (a0.length ≤ 2000000) (fun r => True)
abbrev Uz : Prop := ∀ {a0 a1}, Nx (K4 a0 a1) (zCm a0) (fun r => True)
abbrev Bm : Prop := ∀ {a0 a1}, Nx (KJ a0 a1) (zLl a0) (fun r => True)
abbrev W9 : Prop := ∀ {a0 a1}, Nx (ZW a0 a1) (a0.length ≤ 2000000) (fun r => True)
abbrev DW : Prop := ∀ {a0 a1}, Nx (Vb a0 a1) (zTp a0) (fun r => True)
abbrev UA : Prop := ∀ {a0 a1}, Nx (K5 a0 a1) (zFr a0) (fun r => True)
abbrev BK : Prop := ∀ {a0 a1}, Nx (Jj a0 a1) (zRk a0) (fun r => True)
abbrev G9 : Prop := ∀ {a0 a1}, Nx (Xr a0 a1) (zS a0) (fun r => True)
abbrev Ga : Prop := ∀ {a0}, Nx (Xs a0) (zS a0) (fun r => zS r)
abbrev VJ : Prop := ∀ {a0}, Nx (Zq a0) (zS a0) (fun r => (r = 0 → 1 ≤ a0.fu.fa4 ∧ a0.fu.fa4 ≤ 6) ∧ r ≠ 16)
abbrev VZ : Prop := ∀ {a0}, Nx (QV a0) (a0 ≤ 9223372036854775807) (fun r => r.length ≤ 10 ∧ bB r ∧ (a0 < 248 → r.length = 1) ∧ ∀ k : Nat, a0 < 256 ^ k → r.length ≤ k + 1)
abbrev U8 : Prop := ∀ {a0}, Nx (Zz a0) (True) (fun r => r.length = 1 ∧ bB r)
abbrev Ak : Prop := ∀ {a0}, Nx (Kk a0) (True) (fun r => r.1.length ≤ 60000 ∧ bB r.1)
abbrev El : Prop := ∀ {a0}, Nx (YP a0) (True) (fun r => r.length = 8 ∧ bB r)
abbrev WE : Prop := ∀ {a0}, Nx (Zr a0) (zCm a0) (fun r => r.1.length ≤ 60000 ∧ bB r.1)
abbrev UB : Prop := ∀ {a0}, Nx (ZK a0) (zLl a0) (fun r => r.1.length ≤ 60000 ∧ bB r.1)
abbrev Cm : Prop := ∀ {a0}, Nx (Yi a0) (a0.size ≤ 2000000) (fun r => r.length ≤ a0.size + 10 ∧ bB r)
abbrev BL : Prop := ∀ {a0}, Nx (Jk a0) (zTp a0) (fun r => r.1.length ≤ 60000 ∧ bB r.1)
abbrev WF : Prop := ∀ {a0}, Nx (ZE a0) (zFr a0) (fun r => r.1.length ≤ 60000 ∧ bB r.1)
abbrev Al : Prop := ∀ {a0}, Nx (Kl a0) (zRk a0) (fun r => r.1.length ≤ 60000 ∧ bB r.1)
abbrev CF : Prop := ∀ {a0}, Nx (Xe a0) (a0.length ≤ 100000000) (fun r => True)
abbrev Am : Prop := ∀ {a0 a1 a2}, Nx (Km a0 a1 a2) (True) (fun r => zCm r.1)
abbrev BM : Prop := ∀ {a0 a1}, Nx (Jl a0 a1) (True) (fun r => zLl r.1)
abbrev EX : Prop := ∀ {a0}, Nx (VM a0) (True) (fun r => r.1.fw = [])
abbrev An : Prop := ∀ {a0}, Nx (Kn a0) (True) (fun r => r.1.fw = [])
abbrev CG : Prop := ∀ {a0}, Nx (JJ a0) (True) (fun r => r.1.fb2 = [])
abbrev Um : Prop := ∀ {a0}, Nx (JZ a0) (True) (fun r => r = decide (0 ≤ a0 ∧ a0 ≤ 1073741824))
abbrev UT : Prop := ∀ {a0 a1}, Nx (Vx a0 a1) (True) (fun r => True)
abbrev Ao : Prop := ∀ {a0 a1}, Nx (JQ a0 a1) (True) (fun r => True)
abbrev DX : Prop := ∀ {a0}, Nx (W0 a0) (True) (fun r => 0 ≤ r ∧ r ≤ 18446744073709551615)
abbrev Eo : Prop := ∀ {a0 a1}, Nx (YQ a0 a1) (a0.length = 256 ∧ a1.size ≤ 2000000) (fun r => 0 ≤ r.1 ∧ r.1 ≤ 18446744073709551615)
abbrev Da : Prop := ∀ {a0}, Nx (Yj a0) (True) (fun r => r.length = 256)
abbrev IU : Prop := ∀ {a0 a1}, Nx (A9 a0 a1) (True) (fun r => True)
abbrev EY : Prop := ∀ {a0 a1 a2 a3}, Nx (Ys a0 a1 a2 a3) (a3.size ≤ 2000000) (fun r => 0 ≤ r.1 ∧ (0 ≤ a1 → a1 ≤ 7 → 1 ≤ a2 → a2 ≤ 64 → r.1 < a2))
abbrev Ep : Prop := ∀ {a0 a1 a2}, Nx (Yk a0 a1 a2) (((1 ≤ a0.fa6 ∧ a0.fa6 ≤ 8) ∧ (1 ≤ a0.fx ∧ a0.fx ≤ 64) ∧ (a0.fc0.length : Int) = a0.fa6 * a0.fx) ∧ (0 ≤ a1 ∧ a1 < a0.fa6) ∧ a2.size ≤ 2000000) (fun r => 0 ≤ r ∧ r < (a0.fc0.length : Int))
abbrev WG : Prop := ∀ {a0 a1}, Nx (Ky a0 a1) (zCm a0 ∧ zI a1) (fun r => zCm r.1)
abbrev CI : Prop := ∀ {a0 a1 a2}, Nx (Xf a0 a1 a2) ((2 ≤ a0 ∧ a0 ≤ 8) ∧ a2.size ≤ 2000000) (fun r => 0 ≤ r.1 ∧ r.1 < Xn .i64 1 (IntKind.u64.wrap a0))
abbrev UC : Prop := ∀ {a0 a1}, Nx (Jr a0 a1) (zLl a0 ∧ zI a1) (fun r => zLl r.1)
abbrev Az : Prop := ∀ {a0}, Nx (Kv a0) (a0.length ≤ 2000000 ∧ ∀ x ∈ a0, zE x) (fun r => r.length = a0.length ∧ ∀ x ∈ r, zE x)
abbrev Wa : Prop := ∀ {a0 a1}, Nx (Z1 a0 a1) (True) (fun r => True)
abbrev Db : Prop := ∀ {a0}, Nx (Xt a0) (a0.fw.length ≤ 2000000) (fun r => True)
abbrev BN : Prop := ∀ {a0 a1}, Nx (VE a0 a1) (zTp a0 ∧ zI a1) (fun r => zTp r.1)
abbrev Dc : Prop := ∀ {a0 a1}, Nx (JK a0 a1) (a0.length ≤ 1000000 ∧ (∀ x ∈ a0, zE x) ∧ zE a1) (fun r => r.length ≤ a0.length + 1 ∧ ∀ x ∈ r, zE x)
abbrev Dd : Prop := ∀ {a0 a1}, Nx (Vd a0 a1) (a0.length ≤ 1000000 ∧ ∀ x ∈ a0, zE x) (fun r => r.length ≤ a0.length ∧ ∀ x ∈ r, zE x)
abbrev WH : Prop := ∀ {a0 a1}, Nx (Kz a0 a1) (zFr a0 ∧ zI a1) (fun r => zFr r.1)
abbrev UU : Prop := ∀ {a0}, Nx (Vy a0) (True) (fun r => r = decide (0 ≤ a0 ∧ a0 ≤ 1073741824))
abbrev Xa : Prop := ∀ {a0}, Nx (Ke a0) (a0.length ≤ 100000000 ∧ bB a0) (fun r => (0 ≤ r.2.1 ∧ r.2.1 ≤ (a0.length : Int)) ∧ 0 ≤ r.1 ∧ (r.2.2 = 0 → (r.2.1 = 1 ∧ r.1 < 248) ∨ ∃ k : Nat, r.2.1 = (k : Int) + 1 ∧ r.1 < 256 ^ k) ∧ r.2.2 ≠ 16)
abbrev Bn : Prop := ∀ {a0 a1}, Nx (JI a0 a1) (a1.length ≤ 100000000 ∧ bB a1 ∧ oB a0) (fun r => r.1.length ≤ a1.length + 20 ∧ bB r.1 ∧ ((a1.length : Int) < 248 → r.1.length ≤ a1.length + 6) ∧ (∀ k : Nat, (a1.length : Int) < 256 ^ k → r.1.length ≤ a1.length + k + 6) ∧ (a1.length ≤ 1048576 → 5 ≤ r.1.length))
abbrev Bo : Prop := ∀ {a0}, Nx (VW a0) (a0.length ≤ 100000000 ∧ bB a0) (fun r => r.2.1.length ≤ 100000000 ∧ bB r.2.1 ∧ r.2.2.2 ≠ 16)
abbrev EZ : Prop := ∀ {a0}, Nx (Yt a0) (True) (fun r => r.length ≤ 63 ∧ ∀ x ∈ r, 0 ≤ x ∧ x ≤ 62)
abbrev F0 : Prop := ∀ {a0}, Nx (Yu a0) (a0.length ≤ 2000000 ∧ ∀ x ∈ a0, x.size ≤ 2000000) (fun r => r.length = a0.length ∧ ∀ x ∈ r, x.size ≤ 2000000)
abbrev IV : Prop := ∀ {a0 a1}, Nx (Aa a0 a1) (a0.length ≤ 2000000 ∧ -2147483648 ≤ a1 ∧ a1 ≤ 2147483648) (fun r => 0 ≤ r ∧ r ≤ 1)
abbrev Cc : Prop := ∀ {a0 a1 a2 a3 a4}, Nx (XD a0 a1 a2 a3 a4) ((a0.length ≤ 200 ∧ ∀ x ∈ a0, x.length ≤ 900 ∧ ∀ k ∈ x, k.size ≤ 2000000) ∧ (0 ≤ a4 ∧ a4 ≤ 1073741824) ∧ a3.length ≤ 2000000) (fun r => r.1.length ≤ 2000 ∧ ∀ x ∈ r.1, zKs x)
abbrev Ap : Prop := ∀ {a0 a1 a2 a3}, Nx (JR a0 a1 a2 a3) (zRk a0 ∧ zI a1 ∧ a2.length ≤ 2000000) (fun r => zRk r.1)
abbrev Bp : Prop := ∀ {a0 a1 a2 a3}, Nx (Vm a0 a1 a2 a3) (zRk a0 ∧ zRk a1 ∧ a2.length ≤ 2000000) (fun r => zRk r.1)
abbrev Kj : Prop := ∀ {a0 a1}, Nx (Qj a0 a1) (zRd a0) (fun r => zRd r.2 ∧ 0 ≤ r.1 ∧ (0 ≤ a1 → r.1 ≤ a1))
abbrev Jb : Prop := ∀ {a0}, Nx (Zt a0) (True) (fun r => r.2 = a0)
abbrev Aq : Prop := ∀ {a0}, Nx (JS a0) (a0.length ≤ 100000000 ∧ bB a0) (fun r => True)
abbrev Bq : Prop := ∀ {a0}, Nx (Vg a0) (a0.length ≤ 100000000) (fun r => 0 ≤ r.2.1 ∧ r.2.1 ≤ (a0.length : Int))
abbrev Wb : Prop := ∀ {a0}, Nx (KX a0) (zRd a0) (fun r => zRd r.2)
abbrev WI : Prop := ∀ {a0}, Nx (KA a0) (a0.length ≤ 100000000 ∧ bB a0) (fun r => zCm r.1)
abbrev UD : Prop := ∀ {a0}, Nx (Js a0) (a0.length ≤ 100000000 ∧ bB a0) (fun r => zLl r.1)
abbrev Br : Prop := ∀ {a0}, Nx (Vh a0) (a0.length ≤ 100000000 ∧ bB a0) (fun r => (0 ≤ r.2.1 ∧ r.2.1 ≤ (a0.length : Int)) ∧ r.1.size ≤ 2000000)
abbrev XY : Prop := ∀ {a0}, Nx (Ko a0) (zRd a0) (fun r => zRd r.2 ∧ r.1.size ≤ 2000000)
abbrev BO : Prop := ∀ {a0}, Nx (VF a0) (a0.length ≤ 100000000 ∧ bB a0) (fun r => zTp r.1)
abbrev WJ : Prop := ∀ {a0}, Nx (KB a0) (a0.length ≤ 100000000 ∧ bB a0) (fun r => zFr r.1)
abbrev Ar : Prop := ∀ {a0}, Nx (JU a0) (a0.length ≤ 100000000 ∧ bB a0) (fun r => zRk r.1)
abbrev Bs : Prop := ∀ {a0 a1}, Nx (Vl a0 a1) (True) (fun r => True)
abbrev U9 : Prop := ∀ {a0 a1}, Nx (KY a0 a1) (zCm a0 ∧ zCm a1) (fun r => zCm r.1)
abbrev As : Prop := ∀ {a0 a1}, Nx (JV a0 a1) (zLl a0 ∧ zLl a1) (fun r => zLl r.1)
abbrev Bt : Prop := ∀ {a0 a1}, Nx (K8 a0 a1) (zTp a0 ∧ a1.size ≤ 2000000) (fun r => zE r.1)
abbrev CJ : Prop := ∀ {a0 a1}, Nx (Xh a0 a1) (zTp a0 ∧ zTp a1) (fun r => zTp r.1)
abbrev Ua : Prop := ∀ {a0 a1}, Nx (KZ a0 a1) (zFr a0 ∧ zFr a1) (fun r => zFr r.1)
abbrev YM : Prop := ∀ {a0 a1}, Nx (Kb a0 a1) (zCm a0 ∧ a1.size ≤ 2000000) (fun r => True)
abbrev UE : Prop := ∀ {a0 a1}, Nx (Jt a0 a1) (zFr a0) (fun r => True)
abbrev DY : Prop := ∀ {a0 a1}, Nx (XT a0 a1) (True) (fun r => True)
abbrev F1 : Prop := ∀ {a0 a1 a2}, Nx (Yz a0 a1 a2) (True) (fun r => True)
abbrev WK : Prop := ∀ {a0}, Nx (KG a0) (zLl a0) (fun r => True)
abbrev Er : Prop := ∀ {a0 a1}, Nx (YS a0 a1) (zRk a0) (fun r => True)
abbrev Hq : Prop := ∀ {a0 a1}, Nx (U5 a0 a1) (zRk a0) (fun r => True)
abbrev CK : Prop := ∀ {a0 a1 a2}, Nx (Xl a0 a1 a2) (zRk a0) (fun r => r.1.size ≤ 2000000 ∧ r.2 ≠ 16)
abbrev Es : Prop := ∀ {a0}, Nx (XC a0) (True) (fun r => zS r.1)
abbrev Bu : Prop := ∀ {a0 a1 a2 a3}, Nx (VU a0 a1 a2 a3) (zS a0 ∧ zI a1 ∧ a2.length ≤ 2000000) (fun r => zS r.1)
abbrev F2 : Prop := ∀ {a0 a1 a2 a3}, Nx (Yw a0 a1 a2 a3) (zS a0 ∧ zS a1 ∧ a2.length ≤ 2000000) (fun r => zS r.1)
abbrev Ub : Prop := ∀ {a0}, Nx (Z5 a0) (zS a0) (fun r => r.1.length ≤ 70000 ∧ bB r.1)
abbrev Uc : Prop := ∀ {a0}, Nx (Vi a0) (a0.length ≤ 100000000 ∧ bB a0) (fun r => zS r.1 ∧ r.2 ≠ 16)
abbrev Wg : Prop := ∀ {a0}, Nx (JL a0) (zS a0) (fun r => (r.1.length ≤ 2000000) ∧ r.2 ≠ 16)
abbrev WP : Prop := ∀ {a0}, Nx (Jw a0) (True) (fun r => True)
abbrev Et : Prop := ∀ {a0 a1}, Nx (YT a0 a1) (zS a0) (fun r => r.2 ≠ 16)
abbrev F3 : Prop := ∀ {a0}, Nx (Yv a0) (zS a0) (fun r => True)
abbrev Gb : Prop := ∀ {a0}, Nx (Vn a0) (a0.length ≤ 90000000 ∧ bB a0) (fun r => r.1.length ≤ 100000000 ∧ bB r.1)
abbrev DZ : Prop := ∀ {a0}, Nx (XQ a0) (a0.length ≤ 100000000 ∧ bB a0) (fun r => r.1.length ≤ 100000000 ∧ bB r.1 ∧ r.2 ≠ 16)
abbrev Vt : Prop := ∀ {a0 a1}, Nx (Z0 a0 a1) (UG a0 ∧ a1 ≠ 16) (fun r => (M1 r ∧ r.ff.fd8 = 0) ∧ r.f8 = a0 ∧ r.ff8 = true)
abbrev Yr : Prop := ∀ {a0 a1 a2}, Nx (ZS a0 a1 a2) (UG a0 ∧ a2 ≠ 16) (fun r => (M1 r ∧ r.ff.fd8 = 0) ∧ r.f8 = a0 ∧ r.ff8 = true)
abbrev Cn : Prop := ∀ {a0 a1}, Nx (VV a0 a1) (UG a0 ∧ zMa a1) (fun r => (UG r.1 ∧ zMa r.2) ∧ KS a0 r.1)
abbrev Cd : Prop := ∀ {a0 a1}, Nx (V2 a0 a1) (UG a0 ∧ a1.length ≤ 2000000) (fun r => ((UG r.1 ∧ zMa r.2.1 ∧ (r.2.2 = 0 → (r.2.1.fc1.length : Int) = (a1.length : Int))) ∧ r.2.2 ≠ 16) ∧ KS a0 r.1 ∧ (r.2.2 = 0 → r.2.1.fg4 = a0.fa1 ∧ Shw a0 a1 r.2.1.fc1) ∧ (r.2.2 ≠ 0 → r.1 = a0))
abbrev WQ : Prop := ∀ {a0 a1 a2}, Nx (Jv a0 a1 a2) (UG a0 ∧ zMa a1 ∧ a2.length ≤ 2000000) (fun r => Shw a0 a2 a1.fc1 → r = true)
abbrev Eu : Prop := ∀ {a0 a1 a2}, Nx (YR a0 a1 a2) (UG a0 ∧ zMa a2) (fun r => (M1 r ∧ r.ff.fd8 = 0) ∧ r.ff8 = true ∧ YE a0 r)
abbrev F4 : Prop := ∀ {a0 a1 a2 a3}, Nx (VP a0 a1 a2 a3) (UG a0 ∧ a1 ≤ 64 ∧ zOp a2 ∧ zMa a3 ∧ a3.fd8 ≤ (a2.fb7.length : Int)) (fun r => (M1 r ∧ r.ff.fd8 ≤ (a2.fb7.length : Int)) ∧ YE a0 r ∧ BtP a0 a1 a2.ff0 (a2.fb7.length : Int) a3 r)
abbrev E0 : Prop := ∀ {a0 a1 a2 a3}, Nx (XP a0 a1 a2 a3) (UG a0 ∧ a1 ≤ 64 ∧ zOp a2 ∧ zMa a3) (fun r => M1 r ∧ YE a0 r)
abbrev Gc : Prop := ∀ {a0}, Nx (Xw a0) (a0.length = 4) (fun r => 0 ≤ r.1 ∧ r.1 ≤ 3)
abbrev Gd : Prop := ∀ {a0 a1 a2 a3 a4}, Nx (Vp a0 a1 a2 a3 a4) (UG a0 ∧ a1 ≤ 64 ∧ a2.length = 4 ∧ zOp a3 ∧ zMa a4) (fun r => M1 r ∧ YE a0 r ∧ OpP a1 (a3.fb8.length : Int) a4 r)
abbrev YN : Prop := ∀ {a0 a1 a2}, Nx (K9 a0 a1 a2) (a0.length = 4 ∧ ∀ y ∈ a0, OQ y) (fun r => OQ r.1 ∧ r.2.2 ≠ 16)
abbrev YO : Prop := ∀ {a0 a1 a2}, Nx (JE a0 a1 a2) (UG a0) (fun r => zS r.1 ∧ r.2.2 ≠ 16)
abbrev Hr : Prop := ∀ {a0 a1 a2 a3 a4}, Nx (U6 a0 a1 a2 a3 a4) (UG a0 ∧ a1.length = 4 ∧ ∀ y ∈ a1, OQ y) (fun r => OR r)
abbrev WL : Prop := ∀ {a0 a1 a2}, Nx (KH a0 a1 a2) (UG a0 ∧ a1.length = 4 ∧ ∀ y ∈ a1, OQ y) (fun r => (UG r.1 ∧ r.2.1.length = 4 ∧ (∀ y ∈ r.2.1, OQ y) ∧ OR r.2.2) ∧ KS a0 r.1)
abbrev Au : Prop := ∀ {a0 a1 a2 a3 a4}, Nx (JW a0 a1 a2 a3 a4) (UG a0 ∧ a1.length = 4 ∧ (∀ y ∈ a1, OQ y) ∧ a2.length = 4) (fun r => (UG r.1 ∧ r.2.1.length = 4 ∧ OR r.2.2) ∧ KS a0 r.1)
abbrev BP : Prop := ∀ {a0 a1 a2 a3}, Nx (VH a0 a1 a2 a3) (UG a0 ∧ a1.length = 4) (fun r => r.1.length = 4 ∧ OR r.2)
abbrev UF : Prop := ∀ {a0 a1 a2}, Nx (Ju a0 a1 a2) (UG a0 ∧ a1.length = 4) (fun r => (UG r.1 ∧ r.2.1.length = 4 ∧ OR r.2.2) ∧ KS a0 r.1)
abbrev E2 : Prop := ∀ {a0 a1 a2 a3 a4}, Nx (Ka a0 a1 a2 a3 a4) (UG a0 ∧ TZ a1 ∧ a2.length = 4 ∧ (∀ y ∈ a2, OQ y) ∧ zMa a4) (fun r => M1 r ∧ YE a0 r)
abbrev E3 : Prop := ∀ {a0 a1 a2 a3}, Nx (XR a0 a1 a2 a3) (UG a0 ∧ TZ a1 ∧ zOp a2 ∧ zMa a3) (fun r => M1 r ∧ YE a0 r ∧ ImP a1 (a2.fd2.length : Int) a3 r)
abbrev Ud : Prop := ∀ {a0 a1}, Nx (Zu a0 a1) (UG a0 ∧ OR a1) (fun r => M1 r ∧ r.f8 = a0 ∧ r.ff8 = true)
abbrev BQ : Prop := ∀ {a0}, Nx (VG a0) (zD a0) (fun r => r.length ≤ 1099511627776)
abbrev Ge : Prop := ∀ {a0 a1 a2}, Nx (W5 a0 a1 a2) (zD a0 ∧ a2 ≤ 64) (fun r => r.1.length ≤ 64)
abbrev CL : Prop := ∀ {a0 a1}, Nx (Xk a0 a1) (UG a0 ∧ zMa a1) (fun r => M1 r ∧ YE a0 r)
abbrev E4 : Prop := ∀ {a0 a1}, Nx (Vr a0 a1) (UG a0 ∧ zOp a1) (fun r => M1 r ∧ r.ff8 = true ∧ YE a0 r)
abbrev M5 : Prop := ∀ {a0 a1}, Nx (Ze a0 a1) (UG a0 ∧ zSe a1) (fun r => M1 r.1 ∧ (r.2.fc7.length = 4 ∧ r.2.ff1.length = 4 ∧ ∀ y ∈ r.2.fc7, OQ y) ∧ (r.2.fOp = a1.fOp ∧ r.2.ff = a1.ff ∧ r.2.fg3 = a1.fg3 ∧ r.2.fd4 = a1.fd4) ∧ (a1.fOp.fa4 = 6 → r.1.ff.fd8 ≤ (a1.fOp.fb7.length : Int)) ∧ YE a0 r.1 ∧ ((a1.fOp.fa4 = 6 → BtP a0 a0.fq.fb4 a1.fOp.ff0 (a1.fOp.fb7.length : Int) a1.ff r.1) ∧ (a1.fOp.fa4 = 9 → OpP a0.fq.fb4 (a1.fOp.fb8.length : Int) a1.ff r.1) ∧ (a1.fOp.fa4 = 16 → ImP a0.fq (a1.fOp.fd2.length : Int) a1.ff r.1) ∧ (a1.fOp.fa4 ≠ 6 → a1.fOp.fa4 ≠ 7 → a1.fOp.fa4 ≠ 8 → a1.fOp.fa4 ≠ 9 → a1.fOp.fa4 ≠ 15 → a1.fOp.fa4 ≠ 16 → a1.fOp.fa4 ≠ 17 → r.1.ff8 = true)))
abbrev Ir : Prop := ∀ {a0}, Nx (V0 a0) (True) (fun r => Qxj r)
abbrev Hs : Prop := ∀ {a0}, Nx (JY a0) (True) (fun r => r.size ≤ 16)
abbrev F5 : Prop := ∀ {a0}, Nx (Jc a0) (True) (fun r => True)
abbrev HW : Prop := ∀ {a0 a1}, Nx (Wh a0 a1) (0 ≤ a1) (fun r => True)
abbrev M6 : Prop := ∀ {a0}, Nx (Xp a0) (True) (fun r => r.length = 6 ∧ ∀ x ∈ r, zEv x)
abbrev IW : Prop := ∀ {a0}, Nx (YY a0) (True) (fun r => r.size ≤ 32)
abbrev Ht : Prop := ∀ {a0}, Nx (Yg a0) (True) (fun r => zI r)
abbrev M7 : Prop := ∀ {a0 a1}, Nx (Xq a0 a1) (0 ≤ a1 ∧ a1 ≤ 100) (fun r => (r.length : Int) = a1 ∧ ∀ x ∈ r, zI x)
abbrev Ns : Prop := ∀ {a0 a1 a2}, Nx (Yl a0 a1 a2) ((a1.length ≤ 1000 ∧ ∀ x ∈ a1, zI x) ∧ a2.length ≤ 2000000) (fun r => zS r)
end Go.Proofs.YtimfmcpbkdpmoaaGreat
