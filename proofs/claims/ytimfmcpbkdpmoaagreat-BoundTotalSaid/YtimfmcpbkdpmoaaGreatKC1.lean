/- Parts of the proof, laid together. No condition. -/
import Derived.Test.YtimfmcpbkdpmoaaGreatKB6
set_option linter.unusedVariables false
set_option linter.unusedSimpArgs false
namespace Go.Proofs.YtimfmcpbkdpmoaaGreat
open Go.RowKit
def EH (c n : Int) : Int := max ((n + max c 1 - 1) / max c 1) 1
theorem Yo (c n : Int) : 1 ≤ EH c n := by unfold EH; omega
theorem RD {c n : Int} (h : 0 < n - max c 1) : EH c n = EH c (n - max c 1) + 1 := by
 unfold EH
 generalize hd : max c 1 = d at *
 have d0 : 0 < d := by omega
 have e1 : n + d - 1 = (n - 1) + d := by omega
 have e2 : n - d + d - 1 = n - 1 := by omega
 rw [e1, e2, Int.add_ediv_of_dvd_right (Int.dvd_refl d), Int.ediv_self (by omega)]
 have : 1 ≤ (n - 1) / d := Int.le_ediv_of_mul_le d0 (by omega)
 omega
theorem EC {c n m : Int} (h : n ≤ m) : EH c n ≤ EH c m := by
 unfold EH
 have d1 : 1 ≤ max c 1 := by omega
 generalize max c 1 = d at *
 have : (n + d - 1) / d ≤ (m + d - 1) / d := Int.ediv_le_ediv (by omega) (by omega)
 omega
theorem Qyf {n p : Int} (hn : n ≤ 2000000) : 0 ≤ Pi n p ∧ Pi n p ≤ 200000000 := by
 unfold Pi
 split
 ·omega
 ·rename_i h
  unfold clF
  rw [if_neg (by omega)]
  have a : 0 ≤ n.tdiv p := Int.tdiv_nonneg (by omega) (by omega)
  have b : n.tdiv p ≤ n := by rw [Int.tdiv_eq_ediv_of_nonneg (by omega)]; exact Int.ediv_le_self _ (by omega)
  rw [Za (n := n.tdiv p) (by omega)]
  split
  ·rw [Za (by omega)]; omega
  ·omega
theorem Qmr {n d : Int} (h0 : 0 ≤ n) (hd : 1 ≤ d) : (n + d - 1) / d = n / d + (if n % d > 0 then 1 else 0) := by
 have r0 := Int.emod_nonneg n (b := d) (by omega)
 have r1 := Int.emod_lt_of_pos n (b := d) (by omega)
 have e : n % d + n / d * d = n := by have := Int.emod_add_mul_ediv n d; rw [Int.mul_comm] at this; omega
 split
 ·have e2 : n + d - 1 = (n % d - 1) + (n / d + 1) * d := by rw [Int.add_mul, Int.one_mul]; omega
  rw [e2, Int.add_mul_ediv_right _ _ (by omega), Int.ediv_eq_zero_of_lt (by omega) (by omega)]; omega
 ·have e2 : n + d - 1 = (d - 1) + n / d * d := by omega
  rw [e2, Int.add_mul_ediv_right _ _ (by omega), Int.ediv_eq_zero_of_lt (by omega) (by omega)]; omega
theorem Quj {c n : Int} (h0 : 0 ≤ n) (h1 : n ≤ 4611686018427387904) : KF (clF (KF n 0) (KF c 1)) 1 = EH c n := by
 rw [U1, U1, U1, show max n 0 = n by omega]
 unfold EH
 congr 1
 have d1 : 1 ≤ max c 1 := by omega
 generalize max c 1 = d at *
 rw [Qmr h0 d1]
 unfold clF
 rw [if_neg (by omega), Int.tmod_eq_emod_of_nonneg h0, Int.tdiv_eq_ediv_of_nonneg h0]
 have q0 : 0 ≤ n / d := Int.ediv_nonneg h0 (by omega)
 have q1 : n / d ≤ n := Int.ediv_le_self _ h0
 rw [Za (n := n / d) (by omega)]
 split
 ·rw [Za (by omega)]
 ·omega
structure Bz (s : Q2) (nms : List ByteArray) (n : Int) (m : Qb) : Prop where
 p : m.fc5 = 0 ∨ (m.fc5 = 1 ∧ LfO m ∧ m.fd7 ≤ n) ∨ m.fc5 = 2
 v : m.fc5 ≠ 0 → m.fg5 ≤ s.f7 ∧ (m.fg5 = s.f7 → Shw s nms m.fa9)
def cur (c : Int) (n : Int) (m : Qb) : Int := if m.fc5 = 0 then 2 + EH c n else if m.fc5 = 1 then EH c m.fd7 + 1 else 1
def Su (s : Q2) (m : Qb) : Int := if m.fc5 = 0 ∨ m.fg5 = s.f7 then 0 else 1
def rz (s : Q2) (n p : Int) (m : Qb) : Int := cur s.fj.fb0 n m + (2 + EH s.fj.fb0 n) * (Su s m + p - 1)
theorem Qe7 (c n : Int) (m : Qb) : 1 ≤ cur c n m := by
 unfold cur
 have := Yo c n
 have := Yo c m.fd7
 split <;> (try split) <;> omega
theorem Pj (s : Q2) (m : Qb) : 0 ≤ Su s m ∧ Su s m ≤ 1 := by unfold Su; split <;> omega
theorem Bz.kp {s t : Q2} {nms : List ByteArray} {n : Int} {m : Qb} (h : Bz s nms n m) (k : Kp s t) : Bz t nms n m :=
 ⟨h.p, fun f => ⟨by rw [k.c]; exact (h.v f).1, fun g => ((h.v f).2 (by rw [← k.c]; exact g)).kp k⟩⟩
theorem Bz.lt {s t : Q2} {nms : List ByteArray} {n : Int} {m : Qb} (h : Bz s nms n m) (k : s.f7 < t.f7) : Bz t nms n m :=
 ⟨h.p, fun f => ⟨by have := (h.v f).1; omega, fun g => by have := (h.v f).1; omega⟩⟩
theorem Bz.work {s : Q2} {nms : List ByteArray} {n : Int} {m : Qb} {r : Qi} (hn : n ≤ 2000000) (h : Bz s nms n m) (k : Kp s r.fx) (b : BtP s s.fj.fb0 nms n m r) (nd : r.fg3 = false) (h2 : m.fc5 ≠ 2) : Bz r.fx nms n r.fa ∧ cur s.fj.fb0 n r.fa + 1 ≤ cur s.fj.fb0 n m ∧ Su r.fx r.fa = Su s m := by
 obtain ⟨b0, b1, b2⟩ := b
 have hv := h.v
 rcases h.p with ph | ⟨ph, lf, ln⟩ | ph
 ·obtain ⟨c1, c2, c3, c4⟩ := b0 ph nd
  have f1 : Su s m = 0 := by unfold Su; rw [if_pos (.inl ph)]
  have f2 : Su r.fx r.fa = 0 := by unfold Su; rw [if_pos (.inr (by rw [c3, k.c]))]
  have u1 : cur s.fj.fb0 n m = 2 + EH s.fj.fb0 n := by unfold cur; rw [if_pos ph]
  have u2 : cur s.fj.fb0 n r.fa = EH s.fj.fb0 r.fa.fd7 + 1 := by unfold cur; rw [if_neg (by omega), if_pos c1]
  have := EC (c := s.fj.fb0) c2.2
  exact ⟨⟨.inr (.inl ⟨c1, by unfold LfO; omega, c2.2⟩), fun _ => ⟨by rw [c3, k.c]; omega, fun _ => c4.kp k⟩⟩, by rw [u1, u2]; omega, by rw [f1, f2]⟩
 ·obtain ⟨_, c1, c2, c3, c4⟩ := b1 ph lf
  obtain ⟨l0, l1⟩ := lf
  have pn : r.fa.fc5 ≠ 0 := by rw [c4]; split <;> omega
  have f : Su r.fx r.fa = Su s m := by
   unfold Su
   rw [c1, k.c]
   by_cases e : m.fg5 = s.f7
   ·rw [if_pos (.inr e), if_pos (.inr e)]
   ·rw [if_neg (by omega), if_neg (by omega)]
  refine ⟨⟨?_, fun _ => ⟨by rw [c1, k.c]; exact (hv (by omega)).1, fun e => by rw [c2]; exact ((hv (by omega)).2 (by rw [← k.c, ← c1]; exact e)).kp k⟩⟩, ?_, f⟩
  ·rw [c4]
   split
   ·exact .inr (.inr rfl)
   ·exact .inr (.inl ⟨rfl, by unfold LfO; omega, by omega⟩)
  ·have u1 : cur s.fj.fb0 n m = EH s.fj.fb0 m.fd7 + 1 := by unfold cur; rw [if_neg (by omega), if_pos ph]
   have cp := Yo s.fj.fb0 m.fd7
   rw [u1]
   by_cases z : r.fa.fd7 = 0
   ·rw [if_pos z] at c4
    have u2 : cur s.fj.fb0 n r.fa = 1 := by unfold cur; rw [if_neg (by omega), if_neg (by omega)]
    rw [u2]; omega
   ·rw [if_neg z] at c4
    have u2 : cur s.fj.fb0 n r.fa = EH s.fj.fb0 r.fa.fd7 + 1 := by unfold cur; rw [if_neg (by omega), if_pos c4]
    have e : r.fa.fd7 = m.fd7 - max s.fj.fb0 1 := by omega
    have := RD (c := s.fj.fb0) (n := m.fd7) (by omega)
    rw [u2, e]; omega
 ·exact absurd ph h2
theorem Bz.pick {s : Q2} {nms : List ByteArray} {n p : Int} {m : Qb} {r : Qi} (hn : n ≤ 2000000) (h : Bz s nms n m) (k : Kp s r.fx) (b : BtP s s.fj.fb0 nms n m r) (nd : r.fg3 = false) : Bz r.fx nms n r.fa ∧ rz r.fx n p r.fa + 1 ≤ rz s n p m := by
 by_cases h2 : m.fc5 = 2
 ·obtain ⟨c1, c2⟩ := b.2.2 (by omega) (by omega)
  have c3 := c2 nd
  refine ⟨⟨.inl c3, fun e => absurd c3 e⟩, ?_⟩
  have bn : m.fg5 ≠ s.f7 := fun e => by
   have := c1 ((h.v (by omega)).2 e)
   rw [nd] at this; cases this
  have f1 : Su s m = 1 := by unfold Su; rw [if_neg (by omega)]
  have f2 : Su r.fx r.fa = 0 := by unfold Su; rw [if_pos (.inl c3)]
  have u1 : cur s.fj.fb0 n m = 1 := by unfold cur; rw [if_neg (by omega), if_neg (by omega)]
  have u2 : cur s.fj.fb0 n r.fa = 2 + EH s.fj.fb0 n := by unfold cur; rw [if_pos c3]
  unfold rz
  rw [k.g, f1, f2, u1, u2]
  generalize 2 + EH s.fj.fb0 n = A
  have e : A * (0 + p - 1) = A * (1 + p - 1) - A := by
   rw [show (0 + p - 1 : Int) = (1 + p - 1) - 1 by omega, Int.mul_sub, Int.mul_one]
  rw [e]; omega
 ·obtain ⟨w1, w2, w3⟩ := h.work hn k b nd h2
  refine ⟨w1, ?_⟩
  unfold rz
  rw [k.g, w3]; omega
def Oz (n : Int) (m : Qb) : Prop := m.fc5 = 0 ∨ (m.fc5 = 1 ∧ LfO m ∧ m.fd7 ≤ n)
def ro (c n : Int) (m : Qb) : Int := if m.fc5 = 0 then 1 + EH c n else EH c m.fd7
theorem Oz.pick {c n : Int} {m : Qb} {r : Qi} (hn : n ≤ 2000000) (h : Oz n m) (b : OpP c n m r) (nd : r.fg3 = false) : Oz n r.fa ∧ ro c n r.fa + 1 ≤ ro c n m := by
 obtain ⟨b0, b1⟩ := b
 unfold ro
 rcases h with ph | ⟨ph, lf, ll⟩
 ·obtain ⟨c1, c2, c3⟩ := b0 ph nd
  refine ⟨.inr ⟨c1, by unfold LfO; omega, c3⟩, ?_⟩
  have := EC (c := c) c3
  rw [if_pos ph, if_neg (by omega)]; omega
 ·obtain ⟨c1, c2, c3⟩ := b1 (by omega) lf nd
  obtain ⟨l0, l1⟩ := lf
  refine ⟨.inr ⟨by omega, by unfold LfO; omega, by omega⟩, ?_⟩
  have := RD (c := c) (n := m.fd7) (by omega)
  rw [if_neg (by omega), if_neg (by omega), c3]; omega
def rc (s : Q2) (m : Qb) : Int := ((EF s.fa1 m.fAt : Int) + (s.fj.fc3 - s.f7)) / max s.fj.fb0 1 + 1
theorem Quk {s : Q2} {m : Qb} {r : Qi} (k : Kp s r.fx) (hc : 1 ≤ s.fj.fb0) (b : (EF r.fx.fa1 r.fa.fAt : Int) + s.fj.fb0 ≤ EF s.fa1 m.fAt) : rc r.fx r.fa + 1 ≤ rc s m := by
 unfold rc
 rw [k.g, k.c, show max s.fj.fb0 1 = s.fj.fb0 by omega]
 have : ((EF r.fx.fa1 r.fa.fAt : Int) + (s.fj.fc3 - s.f7)) / s.fj.fb0 + 1 ≤ ((EF s.fa1 m.fAt : Int) + (s.fj.fc3 - s.f7)) / s.fj.fb0 := by
  have e := Int.add_ediv_of_dvd_right (a := (EF r.fx.fa1 r.fa.fAt : Int) + (s.fj.fc3 - s.f7)) (Int.dvd_refl s.fj.fb0)
  rw [Int.ediv_self (by omega)] at e
  rw [← e]
  exact Int.ediv_le_ediv (by omega) (by omega)
 omega
theorem Qyg {s t : Q2} {m : Qb} (k : Kp s t) : rc t m ≤ rc s m := by
 unfold rc
 rw [k.g, k.c]
 have := k.mo m.fAt
 have := Int.ediv_le_ediv (c := max s.fj.fb0 1) (by omega) (show (EF t.fa1 m.fAt : Int) + (s.fj.fc3 - s.f7) ≤ EF s.fa1 m.fAt + (s.fj.fc3 - s.f7) by omega)
 omega
theorem rc_mo {s t : Q2} {m : Qb} (g : t.fj = s.fj) (k : Mo s t) : rc t m ≤ rc s m := by
 unfold rc
 rw [g]
 have := k.2 m.fAt
 have := Int.ediv_le_ediv (c := max s.fj.fb0 1) (by omega) (show (EF t.fa1 m.fAt : Int) + (s.fj.fc3 - t.f7) ≤ EF s.fa1 m.fAt + (s.fj.fc3 - s.f7) by omega)
 omega
structure Bsy (s : Q2) (x : Q6) : Prop where
 i : x.fOp.fa0 = 6 → Bz s [x.fOp.fd4] (x.fOp.fb3.length : Int) x.fa
 g : x.fOp.fa0 = 7 ∨ x.fOp.fa0 = 8 → Bz s [x.fOp.fd4, x.fOp.fg] 372 x.fa
 o : x.fOp.fa0 = 9 → Oz (x.fOp.fb8.length : Int) x.fa
 e : x.fOp.fa0 = 15 → Oz (s.fj.f9 + 4) x.fa
 m : x.fOp.fa0 = 16 → x.fa.fc5 = 0 ∨ (x.fa.fc5 = 1 ∧ LfO x.fa ∧ x.fa.fd7 ≤ Pi x.fOp.fc6.length s.fj.fb6) ∨ x.fa.fc5 = 2
def rim (c n : Int) (m : Qb) : Int := if m.fc5 = 0 then 2 + EH c n else if m.fc5 = 1 then EH c m.fd7 + 1 else 1
def rem (s : Q2) (p : Int) (x : Q6) : Int :=
 if x.fOp.fa0 = 6 then rz s x.fOp.fb3.length p x.fa
 else if x.fOp.fa0 = 7 then rz s 372 p x.fa
 else if x.fOp.fa0 = 8 then cur s.fj.fb0 372 x.fa
 else if x.fOp.fa0 = 9 then ro s.fj.fb0 x.fOp.fb8.length x.fa
 else if x.fOp.fa0 = 15 then ro s.fj.fb0 (s.fj.f9 + 4) x.fa
 else if x.fOp.fa0 = 16 then rim s.fj.fb0 (Pi x.fOp.fc6.length s.fj.fb6) x.fa
 else if x.fOp.fa0 = 17 then rc s x.fa
 else 1
theorem Qms {s : Q2} {n p : Int} {m : Qb} (hp : 1 ≤ p) : 1 ≤ rz s n p m := by
 unfold rz
 have a := Qe7 s.fj.fb0 n m
 have b := Pj s m
 have := Yo s.fj.fb0 n
 have : 0 ≤ (2 + EH s.fj.fb0 n) * (Su s m + p - 1) := Int.mul_nonneg (by omega) (by omega)
 omega
theorem Qe8 {s : Q2} {p : Int} {x : Q6} (hp : 1 ≤ p) (hc : s.f7 ≤ s.fj.fc3) : 1 ≤ rem s p x := by
 unfold rem
 split
 ·exact Qms hp
 split
 ·exact Qms hp
 split
 ·exact Qe7 _ _ _
 have := Yo s.fj.fb0 x.fOp.fb8.length
 have := Yo s.fj.fb0 x.fa.fd7
 have := Yo s.fj.fb0 (s.fj.f9 + 4)
 have := Yo s.fj.fb0 (Pi x.fOp.fc6.length s.fj.fb6)
 split
 ·unfold ro; split <;> omega
 split
 ·unfold ro; split <;> omega
 split
 ·unfold rim; repeat' split
  all_goals omega
 split
 ·unfold rc
  have : 0 ≤ ((EF s.fa1 x.fa.fAt : Int) + (s.fj.fc3 - s.f7)) / max s.fj.fb0 1 := Int.ediv_nonneg (by omega) (by omega)
  omega
 ·exact Int.le_refl _
theorem Bsy.kp {s t : Q2} {x : Q6} (h : Bsy s x) (k : Kp s t) : Bsy t x :=
 { i := fun e => (h.i e).kp k, g := fun e => (h.g e).kp k, o := h.o, e := by rw [k.g]; exact h.e, m := by rw [k.g]; exact h.m }
theorem Qyh {s t : Q2} {n p : Int} {m : Qb} (k : Kp s t) : rz t n p m = rz s n p m := by unfold rz Su; rw [k.c, k.g]
theorem Z14 {s t : Q2} {x : Q6} {p : Int} (k : Kp s t) : rem t p x ≤ rem s p x := by
 unfold rem
 rw [Qyh k, Qyh k, k.g]
 have := Qyg (m := x.fa) k
 repeat' split
 all_goals first | exact Int.le_refl _ | exact this
theorem Bsy.lt {s t : Q2} {x : Q6} (h : Bsy s x) (g : t.fj = s.fj) (k : s.f7 < t.f7) : Bsy t x :=
 { i := fun e => (h.i e).lt k, g := fun e => (h.g e).lt k, o := h.o, e := by rw [g]; exact h.e, m := by rw [g]; exact h.m }
theorem Qmt {s t : Q2} {n p : Int} {m : Qb} (g : t.fj = s.fj) : rz t n (p - 1) m ≤ rz s n p m := by
 unfold rz
 rw [g]
 have b := Pj s m
 have b2 := Pj t m
 have := Yo s.fj.fb0 n
 have : (2 + EH s.fj.fb0 n) * (Su t m + (p - 1) - 1) ≤ (2 + EH s.fj.fb0 n) * (Su s m + p - 1) := Int.mul_le_mul_of_nonneg_left (by omega) (by omega)
 omega
theorem Qul {s t : Q2} {x : Q6} {p : Int} (g : t.fj = s.fj) (k : Kp s t ∨ Mo s t) : rem t (p - 1) x ≤ rem s p x := by
 unfold rem
 have a := Qmt (n := x.fOp.fb3.length) (p := p) (m := x.fa) g
 have b := Qmt (n := 372) (p := p) (m := x.fa) g
 have c : rc t x.fa ≤ rc s x.fa := k.elim Qyg (rc_mo g)
 rw [g]
 repeat' split
 all_goals first | exact Int.le_refl _ | exact a | exact b | exact c
theorem Qmu {s : Q2} {n : Int} {m : Qb} {r : Qi} {d : Int} (e : n = Pi d s.fj.fb6) (hn : 0 ≤ n ∧ n ≤ 200000000) (h : m.fc5 = 0 ∨ (m.fc5 = 1 ∧ LfO m ∧ m.fd7 ≤ n) ∨ m.fc5 = 2) (b : ImP s.fj d m r) (nd : r.fg3 = false) : (r.fa.fc5 = 0 ∨ (r.fa.fc5 = 1 ∧ LfO r.fa ∧ r.fa.fd7 ≤ n) ∨ r.fa.fc5 = 2) ∧ rim s.fj.fb0 n r.fa + 1 ≤ rim s.fj.fb0 n m := by
 obtain ⟨b0, b1, b2⟩ := b
 unfold rim
 rcases h with ph | ⟨ph, lf, ll⟩ | ph
 ·obtain ⟨c1, c2⟩ := b0 ph nd
  rw [← e] at c2
  refine ⟨.inr (.inl ⟨c1, by unfold LfO; omega, by omega⟩), ?_⟩
  rw [if_pos ph, if_neg (by omega), if_pos c1, c2]; omega
 ·have cp := Yo s.fj.fb0 m.fd7
  rcases b1 ph lf nd with ⟨c1, c2, c3⟩ | c1
  ·obtain ⟨l0, l1⟩ := lf
   refine ⟨.inr (.inl ⟨c1, by unfold LfO; omega, by omega⟩), ?_⟩
   have := RD (c := s.fj.fb0) (n := m.fd7) (by omega)
   rw [if_neg (by omega), if_pos c1, if_neg (by omega), if_pos ph, c3]; omega
  ·refine ⟨.inr (.inr c1), ?_⟩
   rw [if_neg (by omega), if_neg (by omega), if_neg (by omega), if_pos ph]; omega
 ·have := b2 (by omega) (by omega)
  rw [nd] at this; cases this
theorem Qum {s : Q2} {x y : Q6} {r : Qi} {p : Int} (hn : x.fOp.fb3.length ≤ 2000000 ∧ x.fOp.fb8.length ≤ 2000000) (hp : 0 ≤ Pi x.fOp.fc6.length s.fj.fb6 ∧ Pi x.fOp.fc6.length s.fj.fb6 ≤ 200000000) (hg : s.fj.f9 ≤ 16384) (hc : 1 ≤ s.fj.fb0) (h : Bsy s x) (k : Kp s r.fx) (b : StP s x r) (nd : r.fg3 = false) (yo : y.fOp = x.fOp) (ym : y.fa = r.fa) : Bsy r.fx y ∧ rem r.fx p y + 1 ≤ rem s p x := by
 obtain ⟨b6, b7, b8, b9, b15, b16, b17, bo⟩ := b
 have key : (x.fOp.fa0 = 6 → Bz r.fx [x.fOp.fd4] (x.fOp.fb3.length : Int) r.fa) → (x.fOp.fa0 = 7 ∨ x.fOp.fa0 = 8 → Bz r.fx [x.fOp.fd4, x.fOp.fg] 372 r.fa) → (x.fOp.fa0 = 9 → Oz (x.fOp.fb8.length : Int) r.fa) → (x.fOp.fa0 = 15 → Oz (s.fj.f9 + 4) r.fa) → (x.fOp.fa0 = 16 → r.fa.fc5 = 0 ∨ (r.fa.fc5 = 1 ∧ LfO r.fa ∧ r.fa.fd7 ≤ Pi x.fOp.fc6.length s.fj.fb6) ∨ r.fa.fc5 = 2) → Bsy r.fx y := fun a1 a2 a3 a4 a5 => { i := by rw [yo, ym]; exact a1, g := by rw [yo, ym]; exact a2, o := by rw [yo, ym]; exact a3, e := by rw [yo, ym, k.g]; exact a4, m := by rw [yo, ym, k.g]; exact a5 }
 have no : ∀ {q : Prop}, x.fOp.fa0 = x.fOp.fa0 + 1 → q := fun h => by omega
 unfold rem
 rw [yo, ym]
 by_cases e6 : x.fOp.fa0 = 6
 ·have := (h.i e6).pick (p := p) (by omega) k (b6 e6) nd
  rw [if_pos e6, if_pos e6]
  exact ⟨key (fun _ => this.1) (fun e => by omega) (fun e => by omega) (fun e => by omega) (fun e => by omega), this.2⟩
 by_cases e7 : x.fOp.fa0 = 7
 ·have := (h.g (.inl e7)).pick (p := p) (by omega) k (b7 (.inl e7)) nd
  rw [if_neg e6, if_pos e7, if_neg e6, if_pos e7]
  exact ⟨key (fun e => by omega) (fun _ => this.1) (fun e => by omega) (fun e => by omega) (fun e => by omega), this.2⟩
 by_cases e8 : x.fOp.fa0 = 8
 ·have n2 : x.fa.fc5 ≠ 2 := fun e => by
   have := b8 e8 (by omega) (by omega)
   rw [nd] at this; cases this
  have := (h.g (.inr e8)).work (by omega) k (b7 (.inr e8)) nd n2
  rw [if_neg e6, if_neg e7, if_pos e8, if_neg e6, if_neg e7, if_pos e8, k.g]
  exact ⟨key (fun e => by omega) (fun _ => this.1) (fun e => by omega) (fun e => by omega) (fun e => by omega), this.2.1⟩
 by_cases e9 : x.fOp.fa0 = 9
 ·have := (h.o e9).pick (by omega) (b9 e9) nd
  rw [if_neg e6, if_neg e7, if_neg e8, if_pos e9, if_neg e6, if_neg e7, if_neg e8, if_pos e9, k.g]
  exact ⟨key (fun e => by omega) (fun e => by omega) (fun _ => this.1) (fun e => by omega) (fun e => by omega), this.2⟩
 by_cases e15 : x.fOp.fa0 = 15
 ·have := (h.e e15).pick (by omega) (b15 e15) nd
  rw [if_neg e6, if_neg e7, if_neg e8, if_neg e9, if_pos e15, if_neg e6, if_neg e7, if_neg e8, if_neg e9, if_pos e15, k.g]
  exact ⟨key (fun e => by omega) (fun e => by omega) (fun e => by omega) (fun _ => this.1) (fun e => by omega), this.2⟩
 by_cases e16 : x.fOp.fa0 = 16
 ·have := Qmu rfl hp (h.m e16) (b16 e16) nd
  rw [if_neg e6, if_neg e7, if_neg e8, if_neg e9, if_neg e15, if_pos e16, if_neg e6, if_neg e7, if_neg e8, if_neg e9, if_neg e15, if_pos e16, k.g]
  exact ⟨key (fun e => by omega) (fun e => by omega) (fun e => by omega) (fun e => by omega) (fun _ => this.1), this.2⟩
 by_cases e17 : x.fOp.fa0 = 17
 ·have := Quk k hc (b17 e17 nd)
  rw [if_neg e6, if_neg e7, if_neg e8, if_neg e9, if_neg e15, if_neg e16, if_pos e17, if_neg e6, if_neg e7, if_neg e8, if_neg e9, if_neg e15, if_neg e16, if_pos e17]
  exact ⟨key (fun e => by omega) (fun e => by omega) (fun e => by omega) (fun e => by omega) (fun e => by omega), this⟩
 ·have := bo e6 e7 e8 e9 e15 e16 e17
  rw [nd] at this; cases this
theorem Qmv {f g : Q6 → Int} {ss : List Q6} (h : ∀ z ∈ ss, g z ≤ f z) : (ss.map g).sum ≤ (ss.map f).sum := by
 induction ss with
 | nil => simp
 | cons a l ih =>
  have := ih fun z hz => h z (by simp [hz])
  have := h a (by simp)
  simp only [List.map_cons, List.sum_cons]; omega
theorem Qe9 {f g : Q6 → Int} {ss : List Q6} {k : Nat} {x y : Q6} (h : ss[k]? = some x) (hy : g y + 1 ≤ f x) (ho : ∀ z ∈ ss, g z ≤ f z) : ((ss.set k y).map g).sum + 1 ≤ (ss.map f).sum := by
 induction ss generalizing k with
 | nil => simp at h
 | cons a l ih =>
  have h1 := ho a (by simp)
  have h2 : ∀ z ∈ l, g z ≤ f z := fun z hz => ho z (by simp [hz])
  cases k with
  | zero =>
   simp at h; subst h
   have := Qmv h2
   simp only [List.set_cons_zero, List.map_cons, List.sum_cons]; omega
  | succ k =>
   simp only [List.getElem?_cons_succ] at h
   have := ih h h2
   simp only [List.set_cons_succ, List.map_cons, List.sum_cons]; omega
def pc (ss : List Q6) : Int := (ss.countP (·.ff6) : Int)
theorem Qmw {ss : List Q6} {k : Nat} {x y : Q6} (h : ss[k]? = some x) : pc (ss.set k y) = pc ss - (if x.ff6 then 1 else 0) + (if y.ff6 then 1 else 0) := by
 unfold pc
 induction ss generalizing k with
 | nil => simp at h
 | cons a l ih =>
  cases k with
  | zero =>
   simp at h; subst h
   simp only [List.set_cons_zero, List.countP_cons]
   cases a.ff6 <;> cases y.ff6 <;> simp <;> omega
  | succ k =>
   simp only [List.getElem?_cons_succ] at h
   have := ih h
   simp only [List.set_cons_succ, List.countP_cons, Int.natCast_add]
   omega
theorem Qmx {ss : List Q6} {k : Nat} {x : Q6} (h : ss[k]? = some x) (hb : x.ff6 = true) : 1 ≤ pc ss := by
 unfold pc
 have : 0 < ss.countP (·.ff6) := List.countP_pos_iff.2 ⟨x, List.mem_of_getElem? h, hb⟩
 omega
theorem Pk {α : Type} {l : List α} {k i : Nat} {a x : α} (h : (l.set k a)[i]? = some x) : (i = k ∧ x = a) ∨ (i ≠ k ∧ l[i]? = some x) := by
 rw [List.getElem?_set] at h
 split at h
 ·split at h
  ·left; cases h; exact ⟨by omega, rfl⟩
  ·cases h
 ·right; exact ⟨by omega, h⟩
theorem Bsy.z {s : Q2} {x : Q6} (h : x.fa.fc5 = 0) : Bsy s x := { i := fun _ => ⟨.inl h, fun e => absurd h e⟩, g := fun _ => ⟨.inl h, fun e => absurd h e⟩, o := fun _ => .inl h, e := fun _ => .inl h, m := fun _ => .inl h }
structure Bi (s : Q2) (ss : List Q6) : Prop where
 sv : Sv s
 b : ∀ (k : Nat) x, ss[k]? = some x → x.ff6 = true → Bsy s x ∧ 1 ≤ x.fOp.fa0 ∧ x.fOp.fa0 ≤ 17
theorem Bi.call {s : Q2} {ss : List Q6} (h : Bi s ss) {k : Nat} {y : Q6} (hy : y.fa.fc5 = 0) (hk : 1 ≤ y.fOp.fa0 ∧ y.fOp.fa0 ≤ 17) : Bi s (ss.set k y) :=
  { sv := h.sv, b := fun j z hz zb => by
       rcases Pk hz with ⟨rfl, rfl⟩ | ⟨_, hz⟩
       · exact ⟨Bsy.z hy, hk⟩
       · exact h.b j z hz zb }
theorem Bi.on {s t : Q2} {ss : List Q6} (h : Bi s ss) {k : Nat} {x y : Q6} (hx : ss[k]? = some x) (hb : x.ff6 = true) (yo : y.fOp = x.fOp) (kp : Kp s t) (sv : Sv t) (hy : Bsy t y) : Bi t (ss.set k y) :=
  { sv := sv, b := fun j z hz zb => by
       rcases Pk hz with ⟨rfl, rfl⟩ | ⟨_, hz⟩
       · exact ⟨hy, by rw [yo]; exact (h.b _ x hx hb).2⟩
       · exact ⟨(h.b j z hz zb).1.kp kp, (h.b j z hz zb).2⟩ }
theorem Bi.fin {s t : Q2} {ss : List Q6} (h : Bi s ss) {k : Nat} {y : Q6} (sv : Sv t) (g : t.fj = s.fj) (kc : Kp s t ∨ Mo s t) (yb : y.ff6 = false) : Bi t (ss.set k y) :=
  { sv := sv, b := fun j z hz zb => by
       rcases Pk hz with ⟨rfl, rfl⟩ | ⟨_, hz⟩
       · rw [yb] at zb; cases zb
       · exact ⟨kc.elim (h.b j z hz zb).1.kp (fun q => (h.b j z hz zb).1.lt g q.1), (h.b j z hz zb).2⟩ }
def sm (s : Q2) (p : Int) (ss : List Q6) : Int := (ss.map fun x => if x.ff6 then rem s p x else 0).sum
theorem sm_on {s t : Q2} {ss : List Q6} {k : Nat} {x y : Q6} (hx : ss[k]? = some x) (hb : x.ff6 = true) (yb : y.ff6 = true) (kp : Kp s t) (hr : rem t (pc ss) y + 1 ≤ rem s (pc ss) x) : sm t (pc (ss.set k y)) (ss.set k y) + 1 ≤ sm s (pc ss) ss := by
 have pe : pc (ss.set k y) = pc ss := by rw [Qmw hx, hb, yb]; simp
 rw [pe]
 refine Qe9 hx (by simpa [hb, yb] using hr) fun z _ => ?_
 split
 ·exact Z14 kp
 ·exact Int.le_refl _
theorem Z15 {s t : Q2} {ss : List Q6} {k : Nat} {x y : Q6} (hx : ss[k]? = some x) (hb : x.ff6 = true) (yb : y.ff6 = false) (g : t.fj = s.fj) (kc : Kp s t ∨ Mo s t) (hc : s.f7 ≤ s.fj.fc3) : sm t (pc (ss.set k y)) (ss.set k y) + 1 ≤ sm s (pc ss) ss := by
 have pe : pc (ss.set k y) = pc ss - 1 := by rw [Qmw hx, hb, yb]; simp
 rw [pe]
 have := Qe8 (x := x) (Qmx hx hb) hc
 refine Qe9 hx (by simpa [hb, yb] using this) fun z _ => ?_
 split
 ·exact Qul g kc
 ·exact Int.le_refl _
theorem Qyi {s : Q2} {ss : List Q6} {p : Int} (hc : s.f7 ≤ s.fj.fc3) (hp : 1 ≤ p) : pc ss ≤ sm s p ss := by
 unfold pc sm
 induction ss with
 | nil => simp
 | cons a l ih =>
  have := Qe8 (x := a) hp hc
  simp only [List.countP_cons, List.map_cons, List.sum_cons, Int.natCast_add]
  cases a.ff6 <;> simp <;> omega
theorem Qun {s : Q2} {ss : List Q6} (hc : s.f7 ≤ s.fj.fc3) (h : sm s (pc ss) ss ≤ 0) : pc ss = 0 := by
 have z : 0 ≤ pc ss := by unfold pc; omega
 by_cases c : pc ss = 0
 ·exact c
 ·have := Qyi (ss := ss) hc (show 1 ≤ pc ss by omega)
  omega
def sdS (a b m : Int) : Int := if max a 0 + max b 0 > max m 0 then max m 0 else max a 0 + max b 0
def smS (a b m : Int) : Int := if max a 0 * max b 0 > max m 0 then max m 0 else max a 0 * max b 0
theorem Qbs {a b : Int} (ha : 0 ≤ a) (hb : 0 ≤ b) (h : a + b ≤ 1099511627776) : sdS a b 1099511627776 = a + b := by
 unfold sdS; rw [if_neg (by omega)]; omega
theorem Z16 {a b : Int} (ha : 0 ≤ a) (hb : 0 ≤ b) (h : a * b ≤ 1099511627776) : smS a b 1099511627776 = a * b := by
 unfold smS
 rw [show max a 0 = a by omega, show max b 0 = b by omega, if_neg (by omega)]
theorem st6 {K p : Int} (hK : 1 ≤ K) (hK2 : K ≤ 4000000) (hp : 0 ≤ p) (hp2 : p ≤ 64) : smS (sdS p 1 1099511627776) (sdS 2 K 1099511627776) 1099511627776 = (2 + K) * (p + 1) := by
 rw [Qbs hp (by omega) (by omega), Qbs (by omega) (by omega) (by omega)]
 have h : (p + 1) * (2 + K) ≤ 65 * 4000002 := Int.mul_le_mul (by omega) (by omega) (by omega) (by omega)
 rw [Z16 (by omega) (by omega) (by omega), Int.mul_comm]
theorem Quo (x : Int) : CN (IntKind.i64.wrap x) := by unfold CN; rw [IntKind.wrap_i64]; omega
theorem Qmy {a b : Int} (ha : CN a) (hb : CN b) : CN (KF a b) := by unfold KF; split <;> assumption
theorem Qup : CN 1099511627776 := by unfold CN; decide
theorem Quq (a b : Int) : CN (clF a b) := by
 unfold clF; split
 ·unfold CN; decide
 ·split <;> exact Quo _
def NR (c n : Int) : Int := KF (clF (KF n 0) (KF c 1)) 1
theorem EE (c n : Int) : CN (NR c n) := Qmy (Quq _ _) (by unfold CN; decide)
theorem Pl {c n : Int} (h0 : 0 ≤ n) (h1 : n ≤ 4611686018427387904) : NR c n = EH c n := Quj h0 h1
theorem Q36 (c n : Int) (h : 0 ≤ n) : EH c n ≤ n + 1 := by
 unfold EH
 have d1 : 1 ≤ max c 1 := by omega
 generalize max c 1 = d at *
 rw [Qmr h d1]
 have := Int.ediv_le_self d h
 split <;> omega
def AS (c : Qz) (o : Qv) (u t : Int) : Int :=
 if o.fa0 = 6 then LC (AZ t 1 1099511627776) (AZ 2 (NR c.fb0 o.fb3.length) 1099511627776) 1099511627776
 else if o.fa0 = 7 then LC (AZ t 1 1099511627776) (AZ 2 (NR c.fb0 u) 1099511627776) 1099511627776
 else if o.fa0 = 8 then AZ 2 (NR c.fb0 u) 1099511627776
 else if o.fa0 = 9 then AZ 1 (NR c.fb0 o.fb8.length) 1099511627776
 else if o.fa0 = 15 then AZ 1 (NR c.fb0 u) 1099511627776
 else if o.fa0 = 16 then AZ 2 (NR c.fb0 (Pi o.fc6.length c.fb6)) 1099511627776
 else if o.fa0 = 17 then JD (NR c.fb0 u) 1099511627776
 else if Q1u o.fa0 = true then 1 else 0
theorem Q37 {a b : Int} : 0 ≤ AZ a b 1099511627776 ∧ AZ a b 1099511627776 ≤ 1099511627776 := by unfold AZ; split <;> omega
theorem Z17 {a b : Int} : 0 ≤ LC a b 1099511627776 ∧ LC a b 1099511627776 ≤ 1099511627776 := by
 have hp : 0 ≤ max a 0 * max b 0 := Int.mul_nonneg (by omega) (by omega)
 unfold LC; split <;> omega
theorem Z18 (c n : Int) : 1 ≤ NR c n := by unfold NR; rw [U1]; omega
theorem Qbt (c : Qz) (o : Qv) (u t : Int) : 0 ≤ AS c o u t ∧ AS c o u t ≤ 1099511627776 := by
 unfold AS
 have := Z18 c.fb0 u
 repeat' (split; first | exact Z17 | exact Q37 | (rw [IE]; omega) | omega | skip)
 omega
theorem Qmz (c : Qz) (o : Qv) (u t : Int) : CN (AS c o u t) := by
 have := Qbt c o u t
 unfold CN; omega
theorem Z19 {k : Int} (h : 1 ≤ k ∧ k ≤ 17) (h6 : k ≠ 6) (h7 : k ≠ 7) (h8 : k ≠ 8) (h9 : k ≠ 9) (h15 : k ≠ 15) (h16 : k ≠ 16) (h17 : k ≠ 17) : Q1u k = true := by
 unfold Q1u Lc; exact decide_eq_true ⟨h, by omega⟩
theorem Qeb {a b : Int} (ha : 0 ≤ a) (hb : 0 ≤ b) (h : a + b ≤ 1099511627776) : AZ a b 1099511627776 = a + b := Qbs ha hb h
theorem Qyl {s : Q2} {nms : List ByteArray} {n p : Int} {m : Qb} (h : Bz s nms n m) : rz s n p m ≤ (2 + EH s.fj.fb0 n) * (p + 1) := by
 unfold rz
 have b := Pj s m
 have c1 := Yo s.fj.fb0 n
 have u : cur s.fj.fb0 n m ≤ 2 + EH s.fj.fb0 n := by
  unfold cur
  rcases h.p with e | ⟨e, _, l⟩ | e
  ·rw [if_pos e]; exact Int.le_refl _
  ·have := EC (c := s.fj.fb0) l
   rw [if_neg (by omega), if_pos e]; omega
  ·rw [if_neg (by omega), if_neg (by omega)]; omega
 have v : (2 + EH s.fj.fb0 n) * (Su s m + p - 1) ≤ (2 + EH s.fj.fb0 n) * p := Int.mul_le_mul_of_nonneg_left (by omega) (by omega)
 rw [Int.mul_add, Int.mul_one]; omega
theorem Z1a {s : Q2} {nms : List ByteArray} {n c : Int} {m : Qb} (h : Bz s nms n m) : cur c n m ≤ 2 + EH c n := by
 unfold cur
 have c1 := Yo c n
 rcases h.p with e | ⟨e, _, l⟩ | e
 ·rw [if_pos e]; exact Int.le_refl _
 ·have := EC (c := c) l
  rw [if_neg (by omega), if_pos e]; omega
 ·rw [if_neg (by omega), if_neg (by omega)]; omega
theorem Qym {n c : Int} {m : Qb} (h : Oz n m) : ro c n m ≤ 1 + EH c n := by
 unfold ro
 rcases h with e | ⟨e, _, l⟩
 ·rw [if_pos e]; exact Int.le_refl _
 ·have := EC (c := c) l
  rw [if_neg (by omega)]; omega
theorem Z1b {n c : Int} {m : Qb} (h : m.fc5 = 0 ∨ (m.fc5 = 1 ∧ LfO m ∧ m.fd7 ≤ n) ∨ m.fc5 = 2) : rim c n m ≤ 2 + EH c n := by
 unfold rim
 have c1 := Yo c n
 rcases h with e | ⟨e, _, l⟩ | e
 ·rw [if_pos e]; exact Int.le_refl _
 ·have := EC (c := c) l
  rw [if_neg (by omega), if_pos e]; omega
 ·rw [if_neg (by omega), if_neg (by omega)]; omega
theorem Z1c (os : List Qc) : (Ss os).length = (vsO os).length := by
 induction os with
 | nil => rfl
 | cons a l ih => unfold Ss vsO at *; simp only [List.flatMap_cons, List.length_append, List.length_map]; omega
theorem rc_le {s : Q2} {m : Qb} (hx : Xs s) (h0 : s.f7 ≤ s.fj.fc3) (h1 : s.fj.fc3 ≤ 100) (hc : s.fj.fb0 ≤ 4) : rc s m ≤ EH s.fj.fb0 372 := by
 have a := List.countP_le_length (p := fun p => !bf p (m.fAt.fb7, m.fAt.fd0)) (l := Ss s.fa1)
 rw [Z1c] at a
 have b := hx.nv
 unfold rc EH EF
 have d : max s.fj.fb0 1 = 1 ∨ max s.fj.fb0 1 = 2 ∨ max s.fj.fb0 1 = 3 ∨ max s.fj.fb0 1 = 4 := by omega
 rcases d with d | d | d | d <;> rw [d] <;> omega
theorem Qur {s : Q2} {x : Q6} {t : Int} (hb : Bsy s x) (hk : 1 ≤ x.fOp.fa0 ∧ x.fOp.fa0 ≤ 17) (hz : zOp x.fOp) (hx : Xs s) (h0 : s.f7 ≤ s.fj.fc3) (h1 : s.fj.fc3 ≤ 100) (hc : s.fj.fb0 ≤ 4) (hp : s.fj.f9 ≤ 60) (ht : 0 ≤ t ∧ t ≤ 64) : rem s t x ≤ AS s.fj x.fOp 372 t := by
 have k0 : NR s.fj.fb0 372 = EH s.fj.fb0 372 := Pl (by omega) (by omega)
 have k1 := Yo s.fj.fb0 372
 have k2 := Q36 s.fj.fb0 372 (by omega)
 unfold AS rem
 by_cases e6 : x.fOp.fa0 = 6
 ·rw [if_pos e6, if_pos e6, Pl (by omega) (by omega)]
  have := Qyl (p := t) (hb.i e6)
  have c1 := Yo s.fj.fb0 x.fOp.fb3.length
  have c2 := Q36 s.fj.fb0 (x.fOp.fb3.length : Int) (by omega)
  have q := st6 (K := EH s.fj.fb0 x.fOp.fb3.length) (p := t) c1 (by have := hz.2.1; omega) ht.1 ht.2
  have e : smS (sdS t 1 1099511627776) (sdS 2 (EH s.fj.fb0 x.fOp.fb3.length) 1099511627776) 1099511627776 = LC (AZ t 1 1099511627776) (AZ 2 (EH s.fj.fb0 x.fOp.fb3.length) 1099511627776) 1099511627776 := rfl
  rw [← e]; omega
 rw [if_neg e6, if_neg e6]
 by_cases e7 : x.fOp.fa0 = 7
 ·rw [if_pos e7, if_pos e7, k0]
  have := Qyl (p := t) (hb.g (.inl e7))
  have q := st6 (K := EH s.fj.fb0 372) (p := t) k1 (by omega) ht.1 ht.2
  have e : smS (sdS t 1 1099511627776) (sdS 2 (EH s.fj.fb0 372) 1099511627776) 1099511627776 = LC (AZ t 1 1099511627776) (AZ 2 (EH s.fj.fb0 372) 1099511627776) 1099511627776 := rfl
  rw [← e]; omega
 rw [if_neg e7, if_neg e7]
 by_cases e8 : x.fOp.fa0 = 8
 ·have := Z1a (c := s.fj.fb0) (hb.g (.inr e8))
  rw [if_pos e8, if_pos e8, k0, Qeb (by omega) (by omega) (by omega)]; omega
 rw [if_neg e8, if_neg e8]
 by_cases e9 : x.fOp.fa0 = 9
 ·have := Qym (c := s.fj.fb0) (hb.o e9)
  have c1 := Yo s.fj.fb0 x.fOp.fb8.length
  have c2 := Q36 s.fj.fb0 (x.fOp.fb8.length : Int) (by omega)
  rw [if_pos e9, if_pos e9, Pl (by omega) (by omega), Qeb (by omega) (by omega) (by have := hz.1; omega)]; omega
 rw [if_neg e9, if_neg e9]
 by_cases e15 : x.fOp.fa0 = 15
 ·have := Qym (c := s.fj.fb0) (hb.e e15)
  have c1 := EC (c := s.fj.fb0) (n := s.fj.f9 + 4) (m := 372) (by omega)
  rw [if_pos e15, if_pos e15, k0, Qeb (by omega) (by omega) (by omega)]; omega
 rw [if_neg e15, if_neg e15]
 by_cases e16 : x.fOp.fa0 = 16
 ·have pb := Qyf (p := s.fj.fb6) (n := (x.fOp.fc6.length : Int)) (by have := hz.2.2.2.1; omega)
  have := Z1b (c := s.fj.fb0) (hb.m e16)
  have c1 := Yo s.fj.fb0 (Pi x.fOp.fc6.length s.fj.fb6)
  have c2 := Q36 s.fj.fb0 (Pi x.fOp.fc6.length s.fj.fb6) (by omega)
  rw [if_pos e16, if_pos e16, Pl (by omega) (by omega), Qeb (by omega) (by omega) (by omega)]; omega
 rw [if_neg e16, if_neg e16]
 by_cases e17 : x.fOp.fa0 = 17
 ·have := rc_le (m := x.fa) hx h0 h1 hc
  rw [if_pos e17, if_pos e17, k0, IE]; omega
 ·rw [if_neg e17, if_neg e17, if_pos (Z19 hk e6 e7 e8 e9 e15 e16 e17)]; exact Int.le_refl _
def Sw (c : Qz) (u t : Int) : Int → List Q6 → Int
 | n, [] => n
 | n, x :: l => Sw c u t (if x.ff6 then AZ n (AS c x.fOp u t) 1099511627776 else n) l
theorem Qn0 {c : Qz} {u t n : Int} {l : List Q6} (h0 : 0 ≤ n) (h : Sw c u t n l < 1099511627776) : n + (l.map fun x => if x.ff6 then AS c x.fOp u t else 0).sum ≤ Sw c u t n l ∧ 0 ≤ Sw c u t n l := by
 induction l generalizing n with
 | nil => simp only [Sw, List.map_nil, List.sum_nil] at *; omega
 | cons a l ih =>
  simp only [Sw, List.map_cons, List.sum_cons] at *
  have sb := Qbt c a.fOp u t
  cases hb : a.ff6
  ·simp only [hb, Bool.false_eq_true, if_false] at *
   have := ih h0 h; omega
  ·simp only [hb, if_true] at *
   have ab := Q37 (a := n) (b := AS c a.fOp u t)
   have := ih ab.1 h
   have ge : ∀ (l : List Q6) (k : Int), 0 ≤ k → k ≤ 1099511627776 → k ≤ Sw c u t k l ∨ 1099511627776 ≤ Sw c u t k l := fun l => by
    induction l with
    | nil => intro k _ _; exact .inl (Int.le_refl _)
    | cons b l ih2 =>
     intro k k0 k1
     simp only [Sw]
     have sb2 := Qbt c b.fOp u t
     cases b.ff6
     ·exact ih2 k k0 k1
     ·simp only [if_true]
      have ab2 := Q37 (a := k) (b := AS c b.fOp u t)
      rcases ih2 _ ab2.1 ab2.2 with g | g
      ·have : k ≤ AZ k (AS c b.fOp u t) 1099511627776 := by unfold AZ; split <;> omega
       omega
      ·exact .inr g
   have nl : AZ n (AS c a.fOp u t) 1099511627776 < 1099511627776 := by
    rcases ge l _ ab.1 ab.2 with g | g <;> omega
   have e : AZ n (AS c a.fOp u t) 1099511627776 = n + AS c a.fOp u t := by
    unfold AZ at nl ⊢; split at nl <;> (try split) <;> omega
   omega
theorem Qec (ss : List Q6) : pc ss ≤ ss.length := by unfold pc; have := List.countP_le_length (p := (·.ff6)) (l := ss); omega
theorem Q0t {α : Type} {l : List α} {j : Nat} {x : α} (h : l[j]? = some x) : l.take (j + 1) = l.take j ++ [x] := by rw [List.take_add_one]; simp [h]
end Go.Proofs.YtimfmcpbkdpmoaaGreat

namespace Go.Proofs.YtimfmcpbkdpmoaaGreat
open Go.RowKit
theorem Ha (a b : Int) : ∃ e, Rr (Jl a b) (clF a b, e) := by
 by_cases h : a < 0 ∨ b < 1
 ·refine ⟨5, ?_⟩
  unfold Rr; rw [Jl.eq_1]
  refine Z5 (fun _ => ?_) fun c => ?_
  ·unfold clF; rw [if_pos h]
  ·simp only [CJ, Bool.or_eq_false_iff, decide_eq_false_iff_not] at c; omega
 ·refine ⟨0, ?_⟩
  unfold Rr; rw [Jl.eq_1]
  refine Z5 (fun c => ?_) fun _ => U0 ⟨by omega, joi ⟨by omega, Z5 (fun c => ?_) fun c => ?_⟩⟩
  ·simp only [CJ, Bool.or_eq_true, decide_eq_true_eq] at c; omega
  ·have c' : a.tmod b > 0 := by simpa using c
   unfold clF; rw [if_neg h, if_pos c']
  ·have c' : ¬ a.tmod b > 0 := by simpa using c
   unfold clF; rw [if_neg h, if_neg c']
theorem XU (c : Qz) (n : Int) : Rr (ZQ c n) (NR c.fb0 n) := by
 unfold Rr; rw [ZQ.eq_1]
 obtain ⟨e, h⟩ := Ha (KF n 0) (KF c.fb0 1)
 exact ⟨_, h, rfl⟩
theorem Tl (n z : Int) : ∃ e, Rr (Xv n z) (Pi n z, e) := by
 have s : Rr (YF z) (decide (z ≥ 1) && decide (z ≤ 1024)) := by
  unfold Rr; rw [YF.eq_1]
  cases decide (z ≥ 1) <;> rfl
 by_cases h : (n < 0 ∨ z < 1) ∨ z > 1024
 ·refine ⟨5, ?_⟩
  unfold Rr; rw [Xv.eq_1]
  refine ⟨_, fun _ => s, Z5 (fun _ => ?_) fun c => ?_⟩
  ·unfold Pi; rw [if_pos h]
  ·simp at c; omega
 ·refine ⟨0, ?_⟩
  obtain ⟨e, k⟩ := Ha n z
  unfold Rr; rw [Xv.eq_1]
  refine ⟨_, fun _ => s, Z5 (fun c => ?_) fun _ => U0 ⟨_, k, ?_⟩⟩
  ·simp at c; omega
  ·unfold Pi; rw [if_neg h]
theorem YY (a b : Int) (ha : CN a) (hb : CN b) : Rr (Ja a b) (AZ a b 1099511627776) := by
 unfold Rr; rw [Ja.eq_1]
 exact ⟨_, ⟨⟨ha, hb, Qup⟩, rfl⟩, rfl⟩
theorem Hb (a b : Int) (ha : CN a) (hb : CN b) : Rr (V9 a b) (LC a b 1099511627776) := by
 unfold Rr; rw [V9.eq_1]
 exact ⟨_, ⟨⟨ha, hb, Qup⟩, rfl⟩, rfl⟩
theorem FS (c : Qz) (o : Qv) (u t : Int) (ht : CN t) : Rr (Vu c o u t) (AS c o u t) := by
 unfold Rr; rw [Vu.eq_1]
 have i1 : CN 1 := by unfold CN; decide
 have i2 : CN 2 := by unfold CN; decide
 have s1 := PT ht i1 Qup
 have s2 := fun n => PT i2 (EE c.fb0 n) Qup
 refine ⟨_, YY t 1 ht i1, Z5 (fun h6 => ?_) fun h6 => Z5 (fun h7 => ?_) fun h7 => Z5 (fun h8 => ?_) fun h8 => Z5 (fun h9 => ?_) fun h9 => Z5 (fun h15 => ?_) fun h15 => Z5 (fun h16 => ?_) fun h16 => Z5 (fun h17 => ?_) fun h17 => ?_⟩
 all_goals simp only [beq_iff_eq, beq_eq_false_iff_ne] at *
 ·refine ⟨_, XU c _, _, YY _ _ i2 (EE _ _), _, Hb _ _ s1 (s2 _), ?_⟩
  unfold AS; rw [if_pos h6]
 ·refine ⟨_, XU c _, _, YY _ _ i2 (EE _ _), _, Hb _ _ s1 (s2 _), ?_⟩
  unfold AS; rw [if_neg h6, if_pos h7]
 ·refine ⟨_, XU c _, _, YY _ _ i2 (EE _ _), ?_⟩
  unfold AS; rw [if_neg h6, if_neg h7, if_pos h8]
 ·refine ⟨_, XU c _, _, YY _ _ i1 (EE _ _), ?_⟩
  unfold AS; rw [if_neg h6, if_neg h7, if_neg h8, if_pos h9]
 ·refine ⟨_, XU c _, _, YY _ _ i1 (EE _ _), ?_⟩
  unfold AS; rw [if_neg h6, if_neg h7, if_neg h8, if_neg h9, if_pos h15]
 ·obtain ⟨e, k⟩ := Tl o.fc6.length c.fb6
  refine ⟨_, k, _, XU c _, _, YY _ _ i2 (EE _ _), ?_⟩
  unfold AS; rw [if_neg h6, if_neg h7, if_neg h8, if_neg h9, if_neg h15, if_pos h16]
 ·refine ⟨_, XU c _, ?_⟩
  unfold AS; rw [if_neg h6, if_neg h7, if_neg h8, if_neg h9, if_neg h15, if_neg h16, if_pos h17]
 ·refine ⟨Q1u o.fa0, by unfold Rr; rw [XR.eq_1], Z5 (fun hs => ?_) fun hs => ?_⟩ <;>
   (unfold AS; rw [if_neg h6, if_neg h7, if_neg h8, if_neg h9, if_neg h15, if_neg h16, if_neg h17, hs]; simp)
theorem RF (c : Qz) (u : Int) : Rr (JI c [] u) 0 := by
 unfold Rr; rw [JI.eq_1]
 refine joi (Bp (I := fun _ s => s = (0, 0)) ?_ (k := 0) rfl)
 rintro n _ rfl X hX
 refine Z5 (fun c => by simp at c) fun _ => joi (Bp (I := fun _ s => s = (0, 0)) ?_ (k := 0) rfl)
 rintro n _ rfl X hX
 exact Z5 (fun c => by simp at c) fun _ => rfl
theorem RG : Rr (JE 0) ⟨2, 2, 60, 8, 8, 100, 1⟩ := by
 unfold Rr; rw [JE.eq_1]
 exact ⟨60, ⟨by decide, by decide⟩, 8, ⟨by decide, by decide⟩, 8, ⟨by decide, by decide⟩, 100, ⟨by decide, by decide⟩, rfl⟩
theorem FT : Rr Vv true := by
 unfold Rr; rw [Vv.eq_1]
 have e1 : ∀ o : Qv, o.fa0 = 4 → AS ⟨2, 2, 60, 8, 8, 100, 1⟩ o 9 9 = 1 := fun o h => by
  unfold AS; rw [if_neg (by omega), if_neg (by omega), if_neg (by omega), if_neg (by omega), if_neg (by omega), if_neg (by omega), if_neg (by omega), if_pos (by rw [h]; decide)]
 have e2 : ∀ o : Qv, o.fa0 = 6 → o.fb3.length = 1 → AS ⟨2, 2, 60, 8, 8, 100, 1⟩ o 0 0 = 3 := fun o h h1 => by
  unfold AS; rw [if_pos h, h1]; decide
 refine ⟨_, RG, 1, ?_, ⟨fun _ => U0 ⟨3, ?_, ⟨fun _ => ⟨0, RF _ _, rfl⟩, fun h => by simp at h⟩⟩, fun h => by simp at h⟩⟩
 ·rw [← e1 _ (rfl : (Qv.mk (4) (ByteArray.empty) (ByteArray.empty) ([] : (List ByteArray)) (Q7.mk (0) (0) (0) (0)) ([] : (List QY)) ([] : (List Int)) (0) (0) (0) (0) (0) (0) (Qs.mk (0) (ByteArray.empty) (0) (0) (0)) ([] : (List Int))).fa0 = 4)]
  exact FS _ _ _ _ (by unfold CN; decide)
 ·rw [← e2 _ (rfl : (Qv.mk (6) ((⟨#[97]⟩ : ByteArray)) (ByteArray.empty) ([] : (List ByteArray)) (Q7.mk (0) (0) (0) (0)) ([(QY.mk ((⟨#[97]⟩ : ByteArray)) (1))]) ([] : (List Int)) (0) (0) (0) (0) (0) (0) (Qs.mk (0) (ByteArray.empty) (0) (0) (0)) ([] : (List Int))).fa0 = 6) rfl]
  exact FS _ _ _ _ (by unfold CN; decide)
theorem Z1d (a b : List Q6) : pc (a ++ b) = pc a + pc b := by unfold pc; simp
theorem Df (l : List Q6) (hl : l.length ≤ 1000) : ∃ r, Rr (Jk l) r ∧ (r.length : Int) = pc l ∧ ∀ k ∈ r, 0 ≤ k ∧ ∃ x, l[k.toNat]? = some x ∧ x.ff6 = true := by
 refine ex_ ?_
 rw [Jk.eq_1]
 refine joi (Bp (I := fun k s => ∃ j : Nat, s.2 = (j : Int) ∧ j ≤ l.length ∧ k = l.length - j ∧ (s.1.length : Int) = pc (l.take j) ∧ ∀ k ∈ s.1, 0 ≤ k ∧ ∃ x, l[k.toNat]? = some x ∧ x.ff6 = true) ?_ (k := l.length) ⟨0, rfl, by omega, rfl, rfl, ZT⟩)
 rintro k ⟨p, i⟩ ⟨j, hj, hj1, hk, hp, hb⟩ X hX
 dsimp only at hj hp hb ⊢
 subst hj
 refine Z5 (fun h => ?_) fun h => ?_
 ·have hj2 : j < l.length := by simpa using h
  have hg : l[j]? = some l[j] := by simp [hj2]
  have w : IntKind.i64.wrap ((j : Int) + 1) = ((j + 1 : Nat) : Int) := by rw [Za (by omega)]; omega
  have pl := Qec (l.take j)
  rw [List.length_take] at pl
  have e1 : pc (l.take (j + 1)) = pc (l.take j) + (if l[j].ff6 = true then 1 else 0) := by
   rw [Q0t hg, Z1d]; congr 1; unfold pc; by_cases h : l[j].ff6 = true <;> simp [h]
  rw [w]
  refine joi ⟨l[j], G3 hj2, Z5 (fun c => U0 ⟨by simp only [List.length_cons, List.length_nil]; omega, ?_⟩) fun c => ?_⟩
  ·refine hX (l.length - (j + 1)) _ (by omega) ⟨j + 1, rfl, by omega, rfl, ?_, ?_⟩
   ·rw [e1, if_pos c]; simp only [List.length_append, List.length_cons, List.length_nil]; omega
   ·exact ZS hb (JC ⟨by omega, l[j], by simp, c⟩)
  ·refine hX (l.length - (j + 1)) _ (by omega) ⟨j + 1, rfl, by omega, rfl, ?_, hb⟩
   rw [e1, if_neg (by rw [c]; decide)]; simp; exact hp
 ·have hj2 : j = l.length := by simp at h; omega
  subst hj2
  rw [List.take_length] at hp
  exact ⟨hp, hb⟩
theorem Qus {l : List Q6} {j : Nat} {x : Q6} (h : l[j]? = some x) : pc (l.take (j + 1)) = pc (l.take j) + (if x.ff6 then 1 else 0) := by
 unfold pc
 rw [Q0t h, List.countP_append, List.countP_singleton]
 split <;> simp
theorem Tm (c : Qz) (l : List Q6) (u : Int) (hl : l.length ≤ 64) : Rr (JI c l u) (Sw c u (pc l) 0 l) := by
 have pl := Qec l
 have p0 : 0 ≤ pc l := by unfold pc; omega
 unfold Rr; rw [JI.eq_1]
 refine AR (fun p => p = pc l) (fun p hp => ?_) fun J hJ => ?_
 ·subst hp
  refine AR (fun p => p = Sw c u (pc l) 0 l) (fun p hp => hp.symm) fun J hJ => ?_
  refine Bp (I := fun n s => ∃ j : Nat, j ≤ l.length ∧ s.2 = (j : Int) ∧ CN s.1 ∧ Sw c u (pc l) s.1 (l.drop j) = Sw c u (pc l) 0 l ∧ n = l.length - j) ?_ (k := l.length) ⟨0, by omega, rfl, by unfold CN; decide, by simp, rfl⟩
  rintro n ⟨a, jj⟩ ⟨j, hj, h1, h2, h3, hn⟩ X hX
  dsimp only at h1 h2 h3
  subst h1
  refine Z5 (fun cc => ?_) fun cc => hJ _ ?_
  ·have hj2 : j < l.length := by simpa using cc
   have w : IntKind.i64.wrap ((j : Int) + 1) = ((j + 1 : Nat) : Int) := by rw [Za (by omega)]; omega
   rw [w]
   have e : l.drop j = l[j] :: l.drop (j + 1) := (List.getElem_cons_drop hj2).symm
   rw [e] at h3
   simp only [Sw] at h3
   refine AR (fun p => CN p ∧ Sw c u (pc l) p (l.drop (j + 1)) = Sw c u (pc l) 0 l) (fun p hp => hX (l.length - (j + 1)) _ (by omega) ⟨j + 1, by omega, rfl, hp.1, hp.2, rfl⟩) fun K hK => ⟨_, G3 hj2, Z5 (fun cb => ⟨_, FS c l[j].fOp u (pc l) (by unfold CN; omega), _, YY a _ h2 (Qmz _ _ _ _), hK _ ⟨?_, by rw [if_pos cb] at h3; exact h3⟩⟩) fun cb => hK _ ⟨h2, by rw [if_neg (by simp [cb])] at h3; exact h3⟩⟩
   have := Q37 (a := a) (b := AS c l[j].fOp u (pc l))
   unfold CN; omega
  ·have : j = l.length := by simp at cc; omega
   subst this
   rw [List.drop_length] at h3
   simpa [Sw] using h3
 ·refine Bp (I := fun n s => ∃ j : Nat, j ≤ l.length ∧ s.2 = (j : Int) ∧ s.1 = pc (l.take j) ∧ n = l.length - j) ?_ (k := l.length) ⟨0, by omega, rfl, by simp [pc], rfl⟩
  rintro n ⟨a, jj⟩ ⟨j, hj, h1, h2, hn⟩ X hX
  dsimp only at h1 h2
  subst h1 h2
  refine Z5 (fun cc => ?_) fun cc => hJ _ ?_
  ·have hj2 : j < l.length := by simpa using cc
   have w : IntKind.i64.wrap ((j : Int) + 1) = ((j + 1 : Nat) : Int) := by rw [Za (by omega)]; omega
   have nx := Qus (l := l) (j := j) (x := l[j]) (by simp [hj2])
   have q1 := Qec (l.take j)
   have q2 : (l.take j).length = j := by rw [List.length_take]; omega
   have q0 : 0 ≤ pc (l.take j) := by unfold pc; omega
   have w2 : IntKind.i64.wrap (pc (l.take j) + 1) = pc (l.take j) + 1 := Za (by omega)
   rw [w, w2]
   refine AR (fun p => p = pc (l.take (j + 1))) (fun p hp => hX (l.length - (j + 1)) _ (by omega) ⟨j + 1, by omega, rfl, hp, rfl⟩) fun K hK => ⟨_, G3 hj2, Z5 (fun cb => hK _ ?_) fun cb => hK _ ?_⟩
   ·rw [nx, if_pos cb]
   ·rw [nx, if_neg (by simp [cb])]; omega
  ·have : j = l.length := by simp at cc; omega
   subst this
   rw [List.take_length]
end Go.Proofs.YtimfmcpbkdpmoaaGreat
