/- Parts of the proof, laid together. No condition. -/
import Derived.Test.YtimfmcpbkdpmoaaGreatKB6
set_option linter.unusedVariables false
set_option linter.unusedSimpArgs false
namespace Go.Proofs.YtimfmcpbkdpmoaaGreat
open Go.RowKit
def Ep (c n : Int) : Int := max ((n + max c 1 - 1) / max c 1) 1
theorem WW (c n : Int) : 1 ≤ Ep c n := by unfold Ep; omega
theorem R6 {c n : Int} (h : 0 < n - max c 1) : Ep c n = Ep c (n - max c 1) + 1 := by
 unfold Ep
 generalize hd : max c 1 = d at *
 have d0 : 0 < d := by omega
 have e1 : n + d - 1 = (n - 1) + d := by omega
 have e2 : n - d + d - 1 = n - 1 := by omega
 rw [e1, e2, Int.add_ediv_of_dvd_right (Int.dvd_refl d), Int.ediv_self (by omega)]
 have : 1 ≤ (n - 1) / d := Int.le_ediv_of_mul_le d0 (by omega)
 omega
structure IC (s : Q2) (x : Q6) : Prop where
 i : x.fOp.f8 = 6 → (x.fa.fc6 = 0 ∨ (x.fa.fc6 = 1 ∧ LfO x.fa) ∨ x.fa.fc6 = 2) ∧ (x.fa.fc6 ≠ 0 → x.fa.fg3 ≤ s.f9 ∧ (x.fa.fg3 = s.f9 → Shw s [x.fOp.fd2] x.fa.fc0))
 o : x.fOp.f8 = 9 → x.fa.fc6 = 0 ∨ (x.fa.fc6 = 1 ∧ LfO x.fa ∧ x.fa.fd7 ≤ (x.fOp.fb2.length : Int))
 m : x.fOp.f8 = 16 → x.fa.fc6 = 0 ∨ (x.fa.fc6 = 1 ∧ LfO x.fa ∧ x.fa.fd7 ≤ O3 x.fOp.fc2.length s.fk.fb7) ∨ x.fa.fc6 = 2
def cur (c : Int) (n : Int) (m : Qe) : Int := if m.fc6 = 0 then 2 + Ep c n else if m.fc6 = 1 then Ep c m.fd7 + 1 else 1
def SN (s : Q2) (m : Qe) : Int := if m.fc6 = 0 ∨ m.fg3 = s.f9 then 0 else 1
def rem (s : Q2) (p : Int) (x : Q6) : Int :=
 if x.fOp.f8 = 6 then cur s.fk.fb5 x.fOp.fa7.length x.fa + (2 + Ep s.fk.fb5 x.fOp.fa7.length) * (SN s x.fa + p - 1)
 else if x.fOp.f8 = 9 then (if x.fa.fc6 = 0 then 1 + Ep s.fk.fb5 x.fOp.fb2.length else Ep s.fk.fb5 x.fa.fd7)
 else if x.fOp.f8 = 16 then (if x.fa.fc6 = 0 then 2 + Ep s.fk.fb5 (O3 x.fOp.fc2.length s.fk.fb7) else if x.fa.fc6 = 1 then Ep s.fk.fb5 x.fa.fd7 + 1 else 1)
 else 1
theorem Qsr (c n : Int) (m : Qe) : 1 ≤ cur c n m := by
 unfold cur
 have := WW c n
 have := WW c m.fd7
 split <;> (try split) <;> omega
theorem OR (s : Q2) (m : Qe) : 0 ≤ SN s m ∧ SN s m ≤ 1 := by unfold SN; split <;> omega
theorem Qss (s : Q2) (p : Int) (x : Q6) (hp : 1 ≤ p) : 1 ≤ rem s p x := by
 unfold rem
 have a := Qsr s.fk.fb5 x.fOp.fa7.length x.fa
 have b := OR s x.fa
 have := WW s.fk.fb5 x.fOp.fa7.length
 have := WW s.fk.fb5 x.fOp.fb2.length
 have := WW s.fk.fb5 x.fa.fd7
 have := WW s.fk.fb5 (O3 x.fOp.fc2.length s.fk.fb7)
 split
 ·have : 0 ≤ (2 + Ep s.fk.fb5 x.fOp.fa7.length) * (SN s x.fa + p - 1) := Int.mul_nonneg (by omega) (by omega)
  omega
 ·repeat' split
  all_goals omega
theorem IC.kp {s t : Q2} {x : Q6} (h : IC s x) (k : Kp s t) : IC t x :=
 { i := fun e => ⟨(h.i e).1, fun f => ⟨by rw [k.c]; exact ((h.i e).2 f).1, fun g => (((h.i e).2 f).2 (by rw [← k.c]; exact g)).kp k⟩⟩, o := h.o, m := by rw [k.g]; exact h.m }
theorem Qys {s t : Q2} {x : Q6} {p : Int} (k : Kp s t) : rem t p x = rem s p x := by
 unfold rem SN; rw [k.c, k.g]
theorem IC.lt {s t : Q2} {x : Q6} (h : IC s x) (g : t.fk = s.fk) (k : s.f9 < t.f9) : IC t x :=
 { i := fun e => ⟨(h.i e).1, fun f => ⟨by have := ((h.i e).2 f).1; omega, fun g => by have := ((h.i e).2 f).1; omega⟩⟩, o := h.o, m := by rw [g]; exact h.m }
theorem Qst {s t : Q2} {x : Q6} {p : Int} (g : t.fk = s.fk) : rem t (p - 1) x ≤ rem s p x := by
 unfold rem
 rw [g]
 have b := OR s x.fa
 have b2 := OR t x.fa
 have := WW s.fk.fb5 x.fOp.fa7.length
 split
 ·have : (2 + Ep s.fk.fb5 x.fOp.fa7.length) * (SN t x.fa + (p - 1) - 1) ≤ (2 + Ep s.fk.fb5 x.fOp.fa7.length) * (SN s x.fa + p - 1) := Int.mul_le_mul_of_nonneg_left (by omega) (by omega)
  omega
 ·exact Int.le_refl _
theorem pick6 {s : Q2} {x y : Q6} {r : Qk} {p : Int} (hk : x.fOp.f8 = 6) (hn : x.fOp.fa7.length ≤ 2000000) (h : IC s x) (k : Kp s r.fx) (b : BtP s s.fk.fb5 x.fOp.fd2 (x.fOp.fa7.length : Int) x.fa r) (nd : r.fg4 = false) (yo : y.fOp = x.fOp) (ym : y.fa = r.fa) : IC r.fx y ∧ rem r.fx p y + 1 ≤ rem s p x := by
 obtain ⟨b0, b1, b2⟩ := b
 obtain ⟨ph, hv⟩ := h.i hk
 have mk : ((r.fa.fc6 = 0 ∨ (r.fa.fc6 = 1 ∧ LfO r.fa) ∨ r.fa.fc6 = 2) ∧ (r.fa.fc6 ≠ 0 → r.fa.fg3 ≤ r.fx.f9 ∧ (r.fa.fg3 = r.fx.f9 → Shw r.fx [x.fOp.fd2] r.fa.fc0))) → IC r.fx y := fun q => { i := fun _ => by rw [yo, ym]; exact q, o := fun e => by rw [yo] at e; omega, m := fun e => by rw [yo] at e; omega }
 have rm : ∀ (t : Q2) (z : Q6), z.fOp.f8 = 6 → rem t p z = cur t.fk.fb5 z.fOp.fa7.length z.fa + (2 + Ep t.fk.fb5 z.fOp.fa7.length) * (SN t z.fa + p - 1) := fun t z e => by unfold rem; rw [if_pos e]
 rw [rm _ y (by rw [yo]; exact hk), rm _ x hk, yo, ym, k.g]
 rcases ph with ph | ⟨ph, lf⟩ | ph
 ·obtain ⟨c1, c2, c3, c4⟩ := b0 ph nd
  refine ⟨mk ⟨.inr (.inl ⟨c1, by unfold LfO; omega⟩), fun _ => ⟨by rw [c3, k.c]; omega, fun _ => c4.kp k⟩⟩, ?_⟩
  have f1 : SN s x.fa = 0 := by unfold SN; rw [if_pos (.inl ph)]
  have f2 : SN r.fx r.fa = 0 := by unfold SN; rw [if_pos (.inr (by rw [c3, k.c]))]
  have u1 : cur s.fk.fb5 x.fOp.fa7.length x.fa = 2 + Ep s.fk.fb5 x.fOp.fa7.length := by unfold cur; rw [if_pos ph]
  have u2 : cur s.fk.fb5 x.fOp.fa7.length r.fa = Ep s.fk.fb5 x.fOp.fa7.length + 1 := by unfold cur; rw [if_neg (by omega), if_pos c1, c2]
  rw [f1, f2, u1, u2]; omega
 ·obtain ⟨c1, c2, c3, c4⟩ := b1 ph lf nd
  obtain ⟨l0, l1⟩ := lf
  have pn : r.fa.fc6 ≠ 0 := by rw [c4]; split <;> omega
  have f : SN r.fx r.fa = SN s x.fa := by
   unfold SN
   rw [c1, k.c]
   by_cases e : x.fa.fg3 = s.f9
   ·rw [if_pos (.inr e), if_pos (.inr e)]
   ·rw [if_neg (by omega), if_neg (by omega)]
  refine ⟨mk ⟨?_, fun _ => ⟨by rw [c1, k.c]; exact (hv (by omega)).1, fun e => by rw [c2]; exact ((hv (by omega)).2 (by rw [← k.c, ← c1]; exact e)).kp k⟩⟩, ?_⟩
  ·rw [c4]
   split
   ·exact .inr (.inr rfl)
   ·exact .inr (.inl ⟨rfl, by unfold LfO; omega⟩)
  ·rw [f]
   have u1 : cur s.fk.fb5 x.fOp.fa7.length x.fa = Ep s.fk.fb5 x.fa.fd7 + 1 := by unfold cur; rw [if_neg (by omega), if_pos ph]
   have cp := WW s.fk.fb5 x.fa.fd7
   rw [u1]
   by_cases z : r.fa.fd7 = 0
   ·rw [if_pos z] at c4
    have u2 : cur s.fk.fb5 x.fOp.fa7.length r.fa = 1 := by unfold cur; rw [if_neg (by omega), if_neg (by omega)]
    rw [u2]; omega
   ·rw [if_neg z] at c4
    have u2 : cur s.fk.fb5 x.fOp.fa7.length r.fa = Ep s.fk.fb5 r.fa.fd7 + 1 := by unfold cur; rw [if_neg (by omega), if_pos c4]
    have e : r.fa.fd7 = x.fa.fd7 - max s.fk.fb5 1 := by omega
    have := R6 (c := s.fk.fb5) (n := x.fa.fd7) (by omega)
    rw [u2, e]; omega
 ·obtain ⟨c1, c2⟩ := b2 (by omega) (by omega)
  have c3 := c2 nd
  refine ⟨mk ⟨.inl c3, fun e => absurd c3 e⟩, ?_⟩
  have bn : x.fa.fg3 ≠ s.f9 := fun e => by
   have := c1 ((hv (by omega)).2 e)
   rw [nd] at this; cases this
  have f1 : SN s x.fa = 1 := by unfold SN; rw [if_neg (by omega)]
  have f2 : SN r.fx r.fa = 0 := by unfold SN; rw [if_pos (.inl c3)]
  have u1 : cur s.fk.fb5 x.fOp.fa7.length x.fa = 1 := by unfold cur; rw [if_neg (by omega), if_neg (by omega)]
  have u2 : cur s.fk.fb5 x.fOp.fa7.length r.fa = 2 + Ep s.fk.fb5 x.fOp.fa7.length := by unfold cur; rw [if_pos c3]
  rw [f1, f2, u1, u2]
  generalize 2 + Ep s.fk.fb5 x.fOp.fa7.length = A
  have e : A * (0 + p - 1) = A * (1 + p - 1) - A := by
   rw [show (0 + p - 1 : Int) = (1 + p - 1) - 1 by omega, Int.mul_sub, Int.mul_one]
  rw [e]; omega
theorem pick9 {s : Q2} {x y : Q6} {r : Qk} {p : Int} (hk : x.fOp.f8 = 9) (hn : x.fOp.fb2.length ≤ 2000000) (h : IC s x) (k : Kp s r.fx) (b : OpP s.fk.fb5 (x.fOp.fb2.length : Int) x.fa r) (nd : r.fg4 = false) (yo : y.fOp = x.fOp) (ym : y.fa = r.fa) : IC r.fx y ∧ rem r.fx p y + 1 ≤ rem s p x := by
 obtain ⟨b0, b1⟩ := b
 have mk : (r.fa.fc6 = 0 ∨ (r.fa.fc6 = 1 ∧ LfO r.fa ∧ r.fa.fd7 ≤ (x.fOp.fb2.length : Int))) → IC r.fx y := fun q => { i := fun e => by rw [yo] at e; omega, o := fun _ => by rw [ym, yo]; exact q, m := fun e => by rw [yo] at e; omega }
 have rm : ∀ (t : Q2) (z : Q6), z.fOp.f8 = 9 → rem t p z = (if z.fa.fc6 = 0 then 1 + Ep t.fk.fb5 z.fOp.fb2.length else Ep t.fk.fb5 z.fa.fd7) := fun t z e => by unfold rem; rw [if_neg (by omega), if_pos e]
 rw [rm _ y (by rw [yo]; exact hk), rm _ x hk, yo, ym, k.g]
 rcases h.o hk with ph | ⟨ph, lf, ll⟩
 ·obtain ⟨c1, c2⟩ := b0 ph nd
  refine ⟨mk (.inr ⟨c1, by unfold LfO; omega, by omega⟩), ?_⟩
  rw [if_pos ph, if_neg (by omega), c2]; omega
 ·obtain ⟨c1, c2, c3⟩ := b1 (by omega) lf nd
  obtain ⟨l0, l1⟩ := lf
  refine ⟨mk (.inr ⟨by omega, by unfold LfO; omega, by omega⟩), ?_⟩
  have := R6 (c := s.fk.fb5) (n := x.fa.fd7) (by omega)
  rw [if_neg (by omega), if_neg (by omega), c3]; omega
theorem Qyt {s : Q2} {x y : Q6} {r : Qk} {p : Int} (hk : x.fOp.f8 = 16) (hn : 0 ≤ O3 x.fOp.fc2.length s.fk.fb7 ∧ O3 x.fOp.fc2.length s.fk.fb7 ≤ 200000000) (h : IC s x) (k : Kp s r.fx) (b : ImP s.fk (x.fOp.fc2.length : Int) x.fa r) (nd : r.fg4 = false) (yo : y.fOp = x.fOp) (ym : y.fa = r.fa) : IC r.fx y ∧ rem r.fx p y + 1 ≤ rem s p x := by
 obtain ⟨b0, b1, b2⟩ := b
 have mk : (r.fa.fc6 = 0 ∨ (r.fa.fc6 = 1 ∧ LfO r.fa ∧ r.fa.fd7 ≤ O3 x.fOp.fc2.length s.fk.fb7) ∨ r.fa.fc6 = 2) → IC r.fx y := fun q => { i := fun e => by rw [yo] at e; omega, o := fun e => by rw [yo] at e; omega, m := fun _ => by rw [ym, yo, k.g]; exact q }
 have rm : ∀ (t : Q2) (z : Q6), z.fOp.f8 = 16 → rem t p z = (if z.fa.fc6 = 0 then 2 + Ep t.fk.fb5 (O3 z.fOp.fc2.length t.fk.fb7) else if z.fa.fc6 = 1 then Ep t.fk.fb5 z.fa.fd7 + 1 else 1) := fun t z e => by unfold rem; rw [if_neg (by omega), if_neg (by omega), if_pos e]
 rw [rm _ y (by rw [yo]; exact hk), rm _ x hk, yo, ym, k.g]
 rcases h.m hk with ph | ⟨ph, lf, ll⟩ | ph
 ·obtain ⟨c1, c2⟩ := b0 ph nd
  refine ⟨mk (.inr (.inl ⟨c1, by unfold LfO; omega, by omega⟩)), ?_⟩
  rw [if_pos ph, if_neg (by omega), if_pos c1, c2]; omega
 ·have cp := WW s.fk.fb5 x.fa.fd7
  rcases b1 ph lf nd with ⟨c1, c2, c3⟩ | c1
  ·obtain ⟨l0, l1⟩ := lf
   refine ⟨mk (.inr (.inl ⟨c1, by unfold LfO; omega, by omega⟩)), ?_⟩
   have := R6 (c := s.fk.fb5) (n := x.fa.fd7) (by omega)
   rw [if_neg (by omega), if_pos c1, if_neg (by omega), if_pos ph, c3]; omega
  ·refine ⟨mk (.inr (.inr c1)), ?_⟩
   rw [if_neg (by omega), if_neg (by omega), if_neg (by omega), if_pos ph]; omega
 ·have := b2 (by omega) (by omega)
  rw [nd] at this; cases this
def big (x : Q6) : Prop := x.fOp.f8 = 7 ∨ x.fOp.f8 = 8 ∨ x.fOp.f8 = 15 ∨ x.fOp.f8 = 17
theorem IC.big {s : Q2} {x : Q6} (h : big x) : IC s x := by
 unfold Go.Proofs.YtimfmcpbkdpmoaaGreat.big at h
 exact { i := fun e => by omega, o := fun e => by omega, m := fun e => by omega }
def pc (ss : List Q6) : Int := (ss.countP (·.ff5) : Int)
theorem Ql9 {ss : List Q6} {k : Nat} {x y : Q6} (h : ss[k]? = some x) : pc (ss.set k y) = pc ss - (if x.ff5 then 1 else 0) + (if y.ff5 then 1 else 0) := by
 unfold pc
 induction ss generalizing k with
 | nil => simp at h
 | cons a l ih =>
  cases k with
  | zero =>
   simp at h; subst h
   simp only [List.set_cons_zero, List.countP_cons]
   cases a.ff5 <;> cases y.ff5 <;> simp <;> omega
  | succ k =>
   simp only [List.getElem?_cons_succ] at h
   have := ih h
   simp only [List.set_cons_succ, List.countP_cons, Int.natCast_add]
   omega
theorem Qla {ss : List Q6} {k : Nat} {x : Q6} (h : ss[k]? = some x) (hb : x.ff5 = true) : 1 ≤ pc ss := by
 unfold pc
 have : 0 < ss.countP (·.ff5) := List.countP_pos_iff.2 ⟨x, List.mem_of_getElem? h, hb⟩
 omega
structure I1 (s : Q2) (ss : List Q6) (i : Int) (most : List Int) : Prop where
 sv : Sv s
 b : ∀ (k : Nat) x, ss[k]? = some x → x.ff5 = true → IC s x ∧ ∃ m, most[k]? = some m ∧ (big x → 93 ≤ m + i) ∧ (¬ big x → rem s (pc ss) x ≤ m)
theorem I1.pos {s : Q2} {ss : List Q6} {i : Int} {most : List Int} (h : I1 s ss i most) (hi : i < 93) {k : Nat} {x : Q6} {m : Int} (hx : ss[k]? = some x) (hb : x.ff5 = true) (hm : most[k]? = some m) : 1 ≤ m := by
 obtain ⟨_, m2, e, h1, h2⟩ := h.b k x hx hb
 rw [hm] at e; cases e
 by_cases c : big x
 ·have := h1 c; omega
 ·have := h2 c
  have := Qss s (pc ss) x (Qla hx hb)
  omega
theorem Il {α : Type} {l : List α} {k i : Nat} {a x : α} (h : (l.set k a)[i]? = some x) : (i = k ∧ x = a) ∨ (i ≠ k ∧ l[i]? = some x) := by
 rw [List.getElem?_set] at h
 split at h
 ·split at h
  ·left; cases h; exact ⟨by omega, rfl⟩
  ·cases h
 ·right; exact ⟨by omega, h⟩
theorem I1.on {s t : Q2} {ss : List Q6} {i : Int} {most : List Int} (h : I1 s ss i most) {k : Nat} {x y : Q6} {m : Int} (hx : ss[k]? = some x) (hb : x.ff5 = true) (hm : most[k]? = some m) (kp : Kp s t) (sv : Sv t) (yb : y.ff5 = true) (yo : y.fOp = x.fOp) (hy : ¬ big x → IC t y ∧ rem t (pc ss) y + 1 ≤ rem s (pc ss) x) : I1 t (ss.set k y) (i + 1) (most.set k (m - 1)) := by
 have pe : pc (ss.set k y) = pc ss := by rw [Ql9 hx, hb, yb]; simp
 have by_ : big y ↔ big x := by unfold big; rw [yo]
 refine { sv := sv, b := fun j z hz zb => ?_ }
 rw [pe]
 rcases Il hz with ⟨rfl, rfl⟩ | ⟨hj, hz⟩
 ·obtain ⟨_, m2, e, h1, h2⟩ := h.b _ x hx hb
  rw [hm] at e; cases e
  have ml := (List.getElem?_eq_some_iff.1 hm).1
  by_cases c : big x
  ·exact ⟨IC.big (by_.2 c), m - 1, by simp [ml], fun _ => by have := h1 c; omega, fun q => absurd (by_.2 c) q⟩
  ·exact ⟨(hy c).1, m - 1, by simp [ml], fun q => absurd (by_.1 q) c, fun _ => by have := h2 c; have := (hy c).2; omega⟩
 ·obtain ⟨h0, m2, e, h1, h2⟩ := h.b j z hz zb
  exact ⟨h0.kp kp, m2, by rw [List.getElem?_set]; rw [if_neg (by omega)]; exact e, fun q => by have := h1 q; omega, fun q => by rw [Qys kp]; exact h2 q⟩
theorem I1.fin {s t : Q2} {ss : List Q6} {i : Int} {most : List Int} (h : I1 s ss i most) {k : Nat} {x y : Q6} {m : Int} (hx : ss[k]? = some x) (hb : x.ff5 = true) (sv : Sv t) (g : t.fk = s.fk) (kc : Kp s t ∨ s.f9 < t.f9) (yb : y.ff5 = false) : I1 t (ss.set k y) (i + 1) (most.set k (m - 1)) := by
 have pe : pc (ss.set k y) = pc ss - 1 := by rw [Ql9 hx, hb, yb]; simp
 refine { sv := sv, b := fun j z hz zb => ?_ }
 rw [pe]
 rcases Il hz with ⟨rfl, rfl⟩ | ⟨hj, hz⟩
 ·rw [yb] at zb; cases zb
 ·obtain ⟨h0, m2, e, h1, h2⟩ := h.b j z hz zb
  exact ⟨kc.elim h0.kp (h0.lt g), m2, by rw [List.getElem?_set]; rw [if_neg (by omega)]; exact e, fun q => by have := h1 q; omega, fun q => Int.le_trans (Qst g) (h2 q)⟩
theorem IC.z {s : Q2} {x : Q6} (h : x.fa.fc6 = 0) : IC s x := { i := fun _ => ⟨.inl h, fun e => absurd h e⟩, o := fun _ => .inl h, m := fun _ => .inl h }
structure Bi (s : Q2) (ss : List Q6) : Prop where
 sv : Sv s
 b : ∀ (k : Nat) x, ss[k]? = some x → x.ff5 = true → IC s x ∧ 1 ≤ x.fOp.f8 ∧ x.fOp.f8 ≤ 17
theorem Bi.call {s : Q2} {ss : List Q6} (h : Bi s ss) {k : Nat} {y : Q6} (hy : y.fa.fc6 = 0) (hk : 1 ≤ y.fOp.f8 ∧ y.fOp.f8 ≤ 17) : Bi s (ss.set k y) :=
 { sv := h.sv, b := fun j z hz zb => by
    rcases Il hz with ⟨rfl, rfl⟩ | ⟨_, hz⟩
    ·exact ⟨IC.z hy, hk⟩
    ·exact h.b j z hz zb }
theorem Bi.on {s t : Q2} {ss : List Q6} (h : Bi s ss) {k : Nat} {x y : Q6} (hx : ss[k]? = some x) (hb : x.ff5 = true) (yo : y.fOp = x.fOp) (kp : Kp s t) (sv : Sv t) (hy : IC t y) : Bi t (ss.set k y) :=
 { sv := sv, b := fun j z hz zb => by
    rcases Il hz with ⟨rfl, rfl⟩ | ⟨_, hz⟩
    ·exact ⟨hy, by rw [yo]; exact (h.b _ x hx hb).2⟩
    ·exact ⟨(h.b j z hz zb).1.kp kp, (h.b j z hz zb).2⟩ }
theorem Bi.fin {s t : Q2} {ss : List Q6} (h : Bi s ss) {k : Nat} {y : Q6} (sv : Sv t) (g : t.fk = s.fk) (kc : Kp s t ∨ s.f9 < t.f9) (yb : y.ff5 = false) : Bi t (ss.set k y) :=
 { sv := sv, b := fun j z hz zb => by
    rcases Il hz with ⟨rfl, rfl⟩ | ⟨_, hz⟩
    ·rw [yb] at zb; cases zb
    ·exact ⟨kc.elim (h.b j z hz zb).1.kp ((h.b j z hz zb).1.lt g), (h.b j z hz zb).2⟩ }
theorem Qsu {s : Q2} {x y : Q6} {r : Qk} {p : Int} (hn : x.fOp.fa7.length ≤ 2000000 ∧ x.fOp.fb2.length ≤ 2000000) (hp : 0 ≤ O3 x.fOp.fc2.length s.fk.fb7 ∧ O3 x.fOp.fc2.length s.fk.fb7 ≤ 200000000) (h : IC s x) (k : Kp s r.fx)
  (b : (x.fOp.f8 = 6 → BtP s s.fk.fb5 x.fOp.fd2 (x.fOp.fa7.length : Int) x.fa r) ∧ (x.fOp.f8 = 9 → OpP s.fk.fb5 (x.fOp.fb2.length : Int) x.fa r) ∧ (x.fOp.f8 = 16 → ImP s.fk (x.fOp.fc2.length : Int) x.fa r) ∧ (x.fOp.f8 ≠ 6 → x.fOp.f8 ≠ 7 → x.fOp.f8 ≠ 8 → x.fOp.f8 ≠ 9 → x.fOp.f8 ≠ 15 → x.fOp.f8 ≠ 16 → x.fOp.f8 ≠ 17 → r.fg4 = true))
  (nd : r.fg4 = false) (yo : y.fOp = x.fOp) (ym : y.fa = r.fa) : IC r.fx y ∧ (¬ big x → rem r.fx p y + 1 ≤ rem s p x) := by
 obtain ⟨b1, b2, b3, b4⟩ := b
 by_cases c : big x
 ·exact ⟨IC.big (by unfold big at c ⊢; rw [yo]; exact c), fun n => absurd c n⟩
 ·by_cases e6 : x.fOp.f8 = 6
  ·have := pick6 (p := p) e6 hn.1 h k (b1 e6) nd yo ym; exact ⟨this.1, fun _ => this.2⟩
  ·by_cases e9 : x.fOp.f8 = 9
   ·have := pick9 (p := p) e9 hn.2 h k (b2 e9) nd yo ym; exact ⟨this.1, fun _ => this.2⟩
   ·by_cases e16 : x.fOp.f8 = 16
    ·have := Qyt (p := p) e16 hp h k (b3 e16) nd yo ym; exact ⟨this.1, fun _ => this.2⟩
    ·unfold big at c
     have := b4 e6 (by omega) (by omega) e9 (by omega) e16 (by omega)
     rw [nd] at this; cases this
theorem Qwi {n p : Int} (hn : n ≤ 2000000) : 0 ≤ O3 n p ∧ O3 n p ≤ 200000000 := by
 unfold O3
 split
 ·omega
 ·rename_i h
  unfold clF
  rw [if_neg (by omega)]
  have a : 0 ≤ n.tdiv p := Int.tdiv_nonneg (by omega) (by omega)
  have b : n.tdiv p ≤ n := by rw [Int.tdiv_eq_ediv_of_nonneg (by omega)]; exact Int.ediv_le_self _ (by omega)
  rw [KI (n := n.tdiv p) (by omega)]
  split
  ·rw [KI (by omega)]; omega
  ·omega
theorem Qlb {n d : Int} (h0 : 0 ≤ n) (hd : 1 ≤ d) : (n + d - 1) / d = n / d + (if n % d > 0 then 1 else 0) := by
 have r0 := Int.emod_nonneg n (b := d) (by omega)
 have r1 := Int.emod_lt_of_pos n (b := d) (by omega)
 have e : n % d + n / d * d = n := by have := Int.emod_add_mul_ediv n d; rw [Int.mul_comm] at this; omega
 split
 ·have e2 : n + d - 1 = (n % d - 1) + (n / d + 1) * d := by rw [Int.add_mul, Int.one_mul]; omega
  rw [e2, Int.add_mul_ediv_right _ _ (by omega), Int.ediv_eq_zero_of_lt (by omega) (by omega)]; omega
 ·have e2 : n + d - 1 = (d - 1) + n / d * d := by omega
  rw [e2, Int.add_mul_ediv_right _ _ (by omega), Int.ediv_eq_zero_of_lt (by omega) (by omega)]; omega
theorem Qsv {c n : Int} (h0 : 0 ≤ n) (h1 : n ≤ 4611686018427387904) : KH (clF (KH n 0) (KH c 1)) 1 = Ep c n := by
 rw [A4, A4, A4, show max n 0 = n by omega]
 unfold Ep
 congr 1
 have d1 : 1 ≤ max c 1 := by omega
 generalize max c 1 = d at *
 rw [Qlb h0 d1]
 unfold clF
 rw [if_neg (by omega), Int.tmod_eq_emod_of_nonneg h0, Int.tdiv_eq_ediv_of_nonneg h0]
 have q0 : 0 ≤ n / d := Int.ediv_nonneg h0 (by omega)
 have q1 : n / d ≤ n := Int.ediv_le_self _ h0
 rw [KI (n := n / d) (by omega)]
 split
 ·rw [KI (by omega)]
 ·omega
theorem R7 {c n m : Int} (h : n ≤ m) : Ep c n ≤ Ep c m := by
 unfold Ep
 have d1 : 1 ≤ max c 1 := by omega
 generalize max c 1 = d at *
 have : (n + d - 1) / d ≤ (m + d - 1) / d := Int.ediv_le_ediv (by omega) (by omega)
 omega
theorem rem6 {s : Q2} {x : Q6} {p : Int} (hk : x.fOp.f8 = 6) (hl : x.fa.fd7 ≤ (x.fOp.fa7.length : Int)) : rem s p x ≤ (2 + Ep s.fk.fb5 x.fOp.fa7.length) * (p + 1) := by
 unfold rem
 rw [if_pos hk]
 have b := OR s x.fa
 have c1 := WW s.fk.fb5 x.fOp.fa7.length
 have c2 := R7 (c := s.fk.fb5) hl
 have u : cur s.fk.fb5 x.fOp.fa7.length x.fa ≤ 2 + Ep s.fk.fb5 x.fOp.fa7.length := by
  unfold cur; split <;> (try split) <;> omega
 have v : (2 + Ep s.fk.fb5 x.fOp.fa7.length) * (SN s x.fa + p - 1) ≤ (2 + Ep s.fk.fb5 x.fOp.fa7.length) * p := Int.mul_le_mul_of_nonneg_left (by omega) (by omega)
 rw [Int.mul_add, Int.mul_one]; omega
theorem rem9 {s : Q2} {x : Q6} {p : Int} (hk : x.fOp.f8 = 9) (h : IC s x) : rem s p x ≤ 1 + Ep s.fk.fb5 x.fOp.fb2.length := by
 unfold rem
 rw [if_neg (by omega), if_pos hk]
 rcases h.o hk with e | ⟨e, _, l⟩
 ·rw [if_pos e]; exact Int.le_refl _
 ·have := R7 (c := s.fk.fb5) l
  rw [if_neg (by omega)]; omega
theorem rem16 {s : Q2} {x : Q6} {p : Int} (hk : x.fOp.f8 = 16) (h : IC s x) : rem s p x ≤ 2 + Ep s.fk.fb5 (O3 x.fOp.fc2.length s.fk.fb7) := by
 unfold rem
 rw [if_neg (by omega), if_neg (by omega), if_pos hk]
 have c1 := WW s.fk.fb5 (O3 x.fOp.fc2.length s.fk.fb7)
 rcases h.m hk with e | ⟨e, _, l⟩ | e
 ·rw [if_pos e]; exact Int.le_refl _
 ·have := R7 (c := s.fk.fb5) l
  rw [if_neg (by omega), if_pos e]; omega
 ·rw [if_neg (by omega), if_neg (by omega)]; omega
theorem rem1 {s : Q2} {x : Q6} {p : Int} (h6 : x.fOp.f8 ≠ 6) (h9 : x.fOp.f8 ≠ 9) (h16 : x.fOp.f8 ≠ 16) : rem s p x = 1 := by
 unfold rem; rw [if_neg h6, if_neg h9, if_neg h16]
def sdS (a b m : Int) : Int := if max a 0 + max b 0 > max m 0 then max m 0 else max a 0 + max b 0
def smS (a b m : Int) : Int := if max a 0 * max b 0 > max m 0 then max m 0 else max a 0 * max b 0
theorem Qap {a b : Int} (ha : 0 ≤ a) (hb : 0 ≤ b) (h : a + b ≤ 1099511627776) : sdS a b 1099511627776 = a + b := by
 unfold sdS; rw [if_neg (by omega)]; omega
theorem Qyu {a b : Int} (ha : 0 ≤ a) (hb : 0 ≤ b) (h : a * b ≤ 1099511627776) : smS a b 1099511627776 = a * b := by
 unfold smS
 rw [show max a 0 = a by omega, show max b 0 = b by omega, if_neg (by omega)]
theorem st6 {K p : Int} (hK : 1 ≤ K) (hK2 : K ≤ 4000000) (hp : 0 ≤ p) (hp2 : p ≤ 64) : smS (sdS p 1 1099511627776) (sdS 2 K 1099511627776) 1099511627776 = (2 + K) * (p + 1) := by
 rw [Qap hp (by omega) (by omega), Qap (by omega) (by omega) (by omega)]
 have h : (p + 1) * (2 + K) ≤ 65 * 4000002 := Int.mul_le_mul (by omega) (by omega) (by omega) (by omega)
 rw [Qyu (by omega) (by omega) (by omega), Int.mul_comm]
theorem st7 {K p : Int} (hK : 91 ≤ K) (hK2 : K ≤ 4000000) (hp : 0 ≤ p) (hp2 : p ≤ 64) : 93 ≤ smS (sdS p 1 1099511627776) (sdS 2 K 1099511627776) 1099511627776 := by
 rw [st6 (by omega) hK2 hp hp2]
 have : (2 + K) * 1 ≤ (2 + K) * (p + 1) := Int.mul_le_mul_of_nonneg_left (by omega) (by omega)
 omega
theorem Qsw {c u : Int} (hc : c ≤ 4) (hu : 372 ≤ u) : 93 ≤ Ep c u := by
 unfold Ep
 have d1 : 1 ≤ max c 1 := by omega
 have d2 : max c 1 ≤ 4 := by omega
 generalize max c 1 = d at *
 have : 93 ≤ (u + d - 1) / d := Int.le_ediv_of_mul_le (by omega) (by omega)
 omega
theorem Qsx (x : Int) : Er (IntKind.i64.wrap x) := by unfold Er; rw [IntKind.wrap_i64]; omega
theorem Qlc {a b : Int} (ha : Er a) (hb : Er b) : Er (KH a b) := by unfold KH; split <;> assumption
theorem Qsy : Er 1099511627776 := by unfold Er; decide
theorem Qsz (a b : Int) : Er (clF a b) := by
 unfold clF; split
 ·unfold Er; decide
 ·split <;> exact Qsx _
def Nw (c n : Int) : Int := KH (clF (KH n 0) (KH c 1)) 1
theorem Em (c n : Int) : Er (Nw c n) := Qlc (Qsz _ _) (by unfold Er; decide)
theorem OS {c n : Int} (h0 : 0 ≤ n) (h1 : n ≤ 4611686018427387904) : Nw c n = Ep c n := Qsv h0 h1
theorem Q28 (c n : Int) (h : 0 ≤ n) : Ep c n ≤ n + 1 := by
 unfold Ep
 have d1 : 1 ≤ max c 1 := by omega
 generalize max c 1 = d at *
 rw [Qlb h d1]
 have := Int.ediv_le_self d h
 split <;> omega
def Eo (c : QA) (o : Qq) (u t : Int) : Int :=
 if o.f8 = 6 then Ms (EU t 1 1099511627776) (EU 2 (Nw c.fb5 o.fa7.length) 1099511627776) 1099511627776
 else if o.f8 = 7 then Ms (EU t 1 1099511627776) (EU 2 (Nw c.fb5 u) 1099511627776) 1099511627776
 else if o.f8 = 8 then EU 2 (Nw c.fb5 u) 1099511627776
 else if o.f8 = 9 then EU 1 (Nw c.fb5 o.fb2.length) 1099511627776
 else if o.f8 = 15 then EU 1 (Nw c.fb5 u) 1099511627776
 else if o.f8 = 16 then EU 2 (Nw c.fb5 (O3 o.fc2.length c.fb7)) 1099511627776
 else if o.f8 = 17 then JE (Nw c.fb5 u) 1099511627776
 else if Q10 o.f8 = true then 1 else 0
theorem Qyv {a b : Int} : 0 ≤ EU a b 1099511627776 ∧ EU a b 1099511627776 ≤ 1099511627776 := by unfold EU; split <;> omega
theorem Qyw {a b : Int} : 0 ≤ Ms a b 1099511627776 ∧ Ms a b 1099511627776 ≤ 1099511627776 := by
 have hp : 0 ≤ max a 0 * max b 0 := Int.mul_nonneg (by omega) (by omega)
 unfold Ms; split <;> omega
theorem Qyx (c n : Int) : 1 ≤ Nw c n := by unfold Nw; rw [A4]; omega
theorem Qyy (c : QA) (o : Qq) (u t : Int) : 0 ≤ Eo c o u t ∧ Eo c o u t ≤ 1099511627776 := by
 unfold Eo
 have := Qyx c.fb5 u
 repeat' (split; first | exact Qyw | exact Qyv | (rw [OQ]; omega) | omega | skip)
 omega
theorem Qyz {k : Int} (h : 1 ≤ k ∧ k ≤ 17) (h6 : k ≠ 6) (h7 : k ≠ 7) (h8 : k ≠ 8) (h9 : k ≠ 9) (h15 : k ≠ 15) (h16 : k ≠ 16) (h17 : k ≠ 17) : Q10 k = true := by
 unfold Q10 IR; exact decide_eq_true ⟨h, by omega⟩
theorem Qd1 {a b : Int} (ha : 0 ≤ a) (hb : 0 ≤ b) (h : a + b ≤ 1099511627776) : EU a b 1099511627776 = a + b := Qap ha hb h
theorem Qt0 {c : QA} {x : Q6} {u t : Int} (hc : c.fb5 ≤ 4) (h : big x) (hu : 372 ≤ u ∧ u ≤ 1000) (ht : 0 ≤ t ∧ t ≤ 64) : 93 ≤ Eo c x.fOp u t := by
 have k0 : Nw c.fb5 u = Ep c.fb5 u := OS (by omega) (by omega)
 have k1 := Qsw hc hu.1
 have k2 := Q28 c.fb5 u (by omega)
 unfold Eo
 rw [k0]
 unfold big at h
 rcases h with h | h | h | h
 ·rw [if_neg (by omega), if_pos h]; exact st7 (by omega) (by omega) ht.1 ht.2
 ·rw [if_neg (by omega), if_neg (by omega), if_pos h, Qd1 (by omega) (by omega) (by omega)]; omega
 ·rw [if_neg (by omega), if_neg (by omega), if_neg (by omega), if_neg (by omega), if_pos h, Qd1 (by omega) (by omega) (by omega)]; omega
 ·rw [if_neg (by omega), if_neg (by omega), if_neg (by omega), if_neg (by omega), if_neg (by omega), if_neg (by omega), if_pos h, OQ]; omega
theorem Qt1 {s : Q2} {x : Q6} {u t : Int} (hb : IC s x) (hk : 1 ≤ x.fOp.f8 ∧ x.fOp.f8 ≤ 17) (hz : zSe x) (h : ¬ big x) (ht : 0 ≤ t ∧ t ≤ 64) : rem s t x ≤ Eo s.fk x.fOp u t := by
 have zo := hz.2.2.2.1
 unfold big at h
 unfold Eo
 by_cases e6 : x.fOp.f8 = 6
 ·rw [if_pos e6, OS (by omega) (by omega)]
  have := rem6 (s := s) (p := t) e6 (hz.2.2.2.2.2 e6)
  have c1 := WW s.fk.fb5 x.fOp.fa7.length
  have c2 := Q28 s.fk.fb5 (x.fOp.fa7.length : Int) (by omega)
  have := st6 (K := Ep s.fk.fb5 x.fOp.fa7.length) (p := t) c1 (by have := zo.2.1; omega) ht.1 ht.2
  have e : smS (sdS t 1 1099511627776) (sdS 2 (Ep s.fk.fb5 x.fOp.fa7.length) 1099511627776) 1099511627776 = Ms (EU t 1 1099511627776) (EU 2 (Ep s.fk.fb5 x.fOp.fa7.length) 1099511627776) 1099511627776 := rfl
  rw [← e]; omega
 ·by_cases e9 : x.fOp.f8 = 9
  ·rw [if_neg e6, if_neg (by omega), if_neg (by omega), if_pos e9, OS (by omega) (by omega)]
   have := rem9 (s := s) (p := t) e9 hb
   have c1 := WW s.fk.fb5 x.fOp.fb2.length
   have c2 := Q28 s.fk.fb5 (x.fOp.fb2.length : Int) (by omega)
   rw [Qd1 (by omega) (by omega) (by have := zo.1; omega)]; omega
  ·by_cases e16 : x.fOp.f8 = 16
   ·have pb := Qwi (p := s.fk.fb7) (n := (x.fOp.fc2.length : Int)) (by have := zo.2.2.2.1; omega)
    rw [if_neg e6, if_neg (by omega), if_neg (by omega), if_neg e9, if_neg (by omega), if_pos e16, OS (by omega) (by omega)]
    have := rem16 (s := s) (p := t) e16 hb
    have c1 := WW s.fk.fb5 (O3 x.fOp.fc2.length s.fk.fb7)
    have c2 := Q28 s.fk.fb5 (O3 x.fOp.fc2.length s.fk.fb7) (by omega)
    rw [Qd1 (by omega) (by omega) (by omega)]; omega
   ·rw [rem1 e6 e9 e16, if_neg e6, if_neg (by omega), if_neg (by omega), if_neg e9, if_neg (by omega), if_neg e16, if_neg (by omega), if_pos (Qyz hk e6 (by omega) (by omega) e9 (by omega) e16 (by omega))]
    exact Int.le_refl _
theorem I1.start {s : Q2} {ss : List Q6} {u : Int} {most : List Int} (bi : Bi s ss) (se : ∀ x ∈ ss, zSe x) (hc : s.fk.fb5 ≤ 4) (hu : 372 ≤ u ∧ u ≤ 1000) (ht : pc ss ≤ 64) (hm : ∀ (k : Nat) x, ss[k]? = some x → x.ff5 = true → most[k]? = some (Eo s.fk x.fOp u (pc ss))) : I1 s ss 0 most :=
 { sv := bi.sv, b := fun k x hx hb => by
    have p0 := Qla hx hb
    exact ⟨(bi.b k x hx hb).1, _, hm k x hx hb, fun h => by have := Qt0 (c := s.fk) (u := u) (t := pc ss) hc h hu ⟨by omega, ht⟩; omega, fun h => Qt1 (bi.b k x hx hb).1 (bi.b k x hx hb).2 (se x (List.mem_of_getElem? hx)) h ⟨by omega, ht⟩⟩ }
theorem Qwl (ss : List Q6) : pc ss ≤ ss.length := by unfold pc; have := List.countP_le_length (p := (·.ff5)) (l := ss); omega
theorem Qey {α : Type} {l : List α} {j : Nat} {x : α} (h : l[j]? = some x) : l.take (j + 1) = l.take j ++ [x] := by rw [List.take_add_one]; simp [h]
end Go.Proofs.YtimfmcpbkdpmoaaGreat

namespace Go.Proofs.YtimfmcpbkdpmoaaGreat
open Go.RowKit
theorem GQ (a b : Int) : ∃ e, Rr (Jg a b) (clF a b, e) := by
 by_cases h : a < 0 ∨ b < 1
 ·refine ⟨5, ?_⟩
  unfold Rr; rw [Jg.eq_1]
  refine ZX (fun _ => ?_) fun c => ?_
  ·unfold clF; rw [if_pos h]
  ·simp only [Du, Bool.or_eq_false_iff, decide_eq_false_iff_not] at c; omega
 ·refine ⟨0, ?_⟩
  unfold Rr; rw [Jg.eq_1]
  refine ZX (fun c => ?_) fun _ => CZ ⟨by omega, joi ⟨by omega, ZX (fun c => ?_) fun c => ?_⟩⟩
  ·simp only [Du, Bool.or_eq_true, decide_eq_true_eq] at c; omega
  ·have c' : a.tmod b > 0 := by simpa using c
   unfold clF; rw [if_neg h, if_pos c']
  ·have c' : ¬ a.tmod b > 0 := by simpa using c
   unfold clF; rw [if_neg h, if_neg c']
theorem XJ (c : QA) (n : Int) : Rr (ZN c n) (Nw c.fb5 n) := by
 unfold Rr; rw [ZN.eq_1]
 obtain ⟨e, h⟩ := GQ (KH n 0) (KH c.fb5 1)
 exact ⟨_, h, rfl⟩
theorem SO (n z : Int) : ∃ e, Rr (Xl n z) (O3 n z, e) := by
 have s : Rr (Yu z) (decide (z ≥ 1) && decide (z ≤ 1024)) := by
  unfold Rr; rw [Yu.eq_1]
  cases decide (z ≥ 1) <;> rfl
 by_cases h : (n < 0 ∨ z < 1) ∨ z > 1024
 ·refine ⟨5, ?_⟩
  unfold Rr; rw [Xl.eq_1]
  refine ⟨_, fun _ => s, ZX (fun _ => ?_) fun c => ?_⟩
  ·unfold O3; rw [if_pos h]
  ·simp at c; omega
 ·refine ⟨0, ?_⟩
  obtain ⟨e, k⟩ := GQ n z
  unfold Rr; rw [Xl.eq_1]
  refine ⟨_, fun _ => s, ZX (fun c => ?_) fun _ => CZ ⟨_, k, ?_⟩⟩
  ·simp at c; omega
  ·unfold O3; rw [if_neg h]
theorem Um (a b : Int) (ha : Er a) (hb : Er b) : Rr (KX a b) (EU a b 1099511627776) := by
 unfold Rr; rw [KX.eq_1]
 exact ⟨_, ⟨⟨ha, hb, Qsy⟩, rfl⟩, rfl⟩
theorem GR (a b : Int) (ha : Er a) (hb : Er b) : Rr (V4 a b) (Ms a b 1099511627776) := by
 unfold Rr; rw [V4.eq_1]
 exact ⟨_, ⟨⟨ha, hb, Qsy⟩, rfl⟩, rfl⟩
theorem FF (c : QA) (o : Qq) (u t : Int) (ht : Er t) : Rr (JB c o u t) (Eo c o u t) := by
 unfold Rr; rw [JB.eq_1]
 have i1 : Er 1 := by unfold Er; decide
 have i2 : Er 2 := by unfold Er; decide
 have s1 := Pr ht i1 Qsy
 have s2 := fun n => Pr i2 (Em c.fb5 n) Qsy
 refine ⟨_, Um t 1 ht i1, ZX (fun h6 => ?_) fun h6 => ZX (fun h7 => ?_) fun h7 => ZX (fun h8 => ?_) fun h8 => ZX (fun h9 => ?_) fun h9 => ZX (fun h15 => ?_) fun h15 => ZX (fun h16 => ?_) fun h16 => ZX (fun h17 => ?_) fun h17 => ?_⟩
 all_goals simp only [beq_iff_eq, beq_eq_false_iff_ne] at *
 ·refine ⟨_, XJ c _, _, Um _ _ i2 (Em _ _), _, GR _ _ s1 (s2 _), ?_⟩
  unfold Eo; rw [if_pos h6]
 ·refine ⟨_, XJ c _, _, Um _ _ i2 (Em _ _), _, GR _ _ s1 (s2 _), ?_⟩
  unfold Eo; rw [if_neg h6, if_pos h7]
 ·refine ⟨_, XJ c _, _, Um _ _ i2 (Em _ _), ?_⟩
  unfold Eo; rw [if_neg h6, if_neg h7, if_pos h8]
 ·refine ⟨_, XJ c _, _, Um _ _ i1 (Em _ _), ?_⟩
  unfold Eo; rw [if_neg h6, if_neg h7, if_neg h8, if_pos h9]
 ·refine ⟨_, XJ c _, _, Um _ _ i1 (Em _ _), ?_⟩
  unfold Eo; rw [if_neg h6, if_neg h7, if_neg h8, if_neg h9, if_pos h15]
 ·obtain ⟨e, k⟩ := SO o.fc2.length c.fb7
  refine ⟨_, k, _, XJ c _, _, Um _ _ i2 (Em _ _), ?_⟩
  unfold Eo; rw [if_neg h6, if_neg h7, if_neg h8, if_neg h9, if_neg h15, if_pos h16]
 ·refine ⟨_, XJ c _, ?_⟩
  unfold Eo; rw [if_neg h6, if_neg h7, if_neg h8, if_neg h9, if_neg h15, if_neg h16, if_pos h17]
 ·refine ⟨Q10 o.f8, by unfold Rr; rw [XH.eq_1], ZX (fun hs => ?_) fun hs => ?_⟩ <;>
   (unfold Eo; rw [if_neg h6, if_neg h7, if_neg h8, if_neg h9, if_neg h15, if_neg h16, if_neg h17, hs]; simp)
theorem R9 (c : QA) (u : Int) : Rr (Yw c [] u) 0 := by
 unfold Rr; rw [Yw.eq_1]
 refine joi (Cp (I := fun _ s => s = (0, 0)) ?_ (k := 0) rfl)
 rintro n _ rfl X hX
 refine ZX (fun c => by simp at c) fun _ => joi (Cp (I := fun _ s => s = (0, 0)) ?_ (k := 0) rfl)
 rintro n _ rfl X hX
 exact ZX (fun c => by simp at c) fun _ => rfl
theorem Ra : Rr (Jx 0) ⟨2, 2, 60, 8, 8, 100, 1⟩ := by
 unfold Rr; rw [Jx.eq_1]
 exact ⟨60, ⟨by decide, by decide⟩, 8, ⟨by decide, by decide⟩, 8, ⟨by decide, by decide⟩, 100, ⟨by decide, by decide⟩, rfl⟩
theorem SP : Rr Yx true := by
 unfold Rr; rw [Yx.eq_1]
 have e1 : ∀ o : Qq, o.f8 = 4 → Eo ⟨2, 2, 60, 8, 8, 100, 1⟩ o 9 9 = 1 := fun o h => by
  unfold Eo; rw [if_neg (by omega), if_neg (by omega), if_neg (by omega), if_neg (by omega), if_neg (by omega), if_neg (by omega), if_neg (by omega), if_pos (by rw [h]; decide)]
 have e2 : ∀ o : Qq, o.f8 = 6 → o.fa7.length = 1 → Eo ⟨2, 2, 60, 8, 8, 100, 1⟩ o 0 0 = 3 := fun o h h1 => by
  unfold Eo; rw [if_pos h, h1]; decide
 refine ⟨_, Ra, 1, ?_, ⟨fun _ => CZ ⟨3, ?_, ⟨fun _ => ⟨0, R9 _ _, rfl⟩, fun h => by simp at h⟩⟩, fun h => by simp at h⟩⟩
 ·rw [← e1 _ (rfl : (Qq.mk (4) (ByteArray.empty) (ByteArray.empty) ([] : (List ByteArray)) (Q7.mk (0) (0) (0) (0)) ([] : (List Z5)) ([] : (List Int)) (0) (0) (0) (0) (0) (0) (Qo.mk (0) (ByteArray.empty) (0) (0) (0)) ([] : (List Int))).f8 = 4)]
  exact FF _ _ _ _ (by unfold Er; decide)
 ·rw [← e2 _ (rfl : (Qq.mk (6) ((⟨#[97]⟩ : ByteArray)) (ByteArray.empty) ([] : (List ByteArray)) (Q7.mk (0) (0) (0) (0)) ([(Z5.mk ((⟨#[97]⟩ : ByteArray)) (1))]) ([] : (List Int)) (0) (0) (0) (0) (0) (0) (Qo.mk (0) (ByteArray.empty) (0) (0) (0)) ([] : (List Int))).f8 = 6) rfl]
  exact FF _ _ _ _ (by unfold Er; decide)
theorem Qz0 (a b : List Q6) : pc (a ++ b) = pc a + pc b := by unfold pc; simp
theorem GT (l : List Q6) (hl : l.length ≤ 1000) : ∃ r, Rr (V3 l) r ∧ (r.length : Int) = pc l ∧ ∀ k ∈ r, 0 ≤ k ∧ ∃ x, l[k.toNat]? = some x ∧ x.ff5 = true := by
 refine ex_ ?_
 rw [V3.eq_1]
 refine joi (Cp (I := fun k s => ∃ j : Nat, s.2 = (j : Int) ∧ j ≤ l.length ∧ k = l.length - j ∧ (s.1.length : Int) = pc (l.take j) ∧ ∀ k ∈ s.1, 0 ≤ k ∧ ∃ x, l[k.toNat]? = some x ∧ x.ff5 = true) ?_ (k := l.length) ⟨0, rfl, by omega, rfl, rfl, VT⟩)
 rintro k ⟨p, i⟩ ⟨j, hj, hj1, hk, hp, hb⟩ X hX
 dsimp only at hj hp hb ⊢
 subst hj
 refine ZX (fun h => ?_) fun h => ?_
 ·have hj2 : j < l.length := by simpa using h
  have hg : l[j]? = some l[j] := by simp [hj2]
  have w : IntKind.i64.wrap ((j : Int) + 1) = ((j + 1 : Nat) : Int) := by rw [KI (by omega)]; omega
  have pl := Qwl (l.take j)
  rw [List.length_take] at pl
  have e1 : pc (l.take (j + 1)) = pc (l.take j) + (if l[j].ff5 = true then 1 else 0) := by
   rw [Qey hg, Qz0]; congr 1; unfold pc; by_cases h : l[j].ff5 = true <;> simp [h]
  rw [w]
  refine joi ⟨l[j], GP hj2, ZX (fun c => CZ ⟨by simp only [List.length_cons, List.length_nil]; omega, ?_⟩) fun c => ?_⟩
  ·refine hX (l.length - (j + 1)) _ (by omega) ⟨j + 1, rfl, by omega, rfl, ?_, ?_⟩
   ·rw [e1, if_pos c]; simp only [List.length_append, List.length_cons, List.length_nil]; omega
   ·exact Yz hb (XO ⟨by omega, l[j], by simp, c⟩)
  ·refine hX (l.length - (j + 1)) _ (by omega) ⟨j + 1, rfl, by omega, rfl, ?_, hb⟩
   rw [e1, if_neg (by rw [c]; decide)]; simp; exact hp
 ·have hj2 : j = l.length := by simp at h; omega
  subst hj2
  rw [List.take_length] at hp
  exact ⟨hp, hb⟩
end Go.Proofs.YtimfmcpbkdpmoaaGreat
