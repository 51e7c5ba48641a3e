/- Parts of the proof, laid together. No condition. -/
import Derived.Test.YtimfmcpbkdpmoaaGreatKB6
set_option linter.unusedVariables false
set_option linter.unusedSimpArgs false
namespace Go.Proofs.YtimfmcpbkdpmoaaGreat
open Go.RowKit
class Uf {R : Type} (W : (R → Prop) → Prop) (W' : outParam ((R → Prop) → Prop)) : Prop where
 eq : ∀ Q, W Q = W' Q
theorem rnc {R : Type} {W W' : (R → Prop) → Prop} [u : Uf W W'] [Gm W] {K : R → Prop} (h : W' K) : ∃ v, Rr W v ∧ K v := ex_ (by rw [u.eq]; exact h)
theorem rnh {R : Type} {W : (R → Prop) → Prop} {v : R} {K : R → Prop} (h : Rr W v) (k : K v) : ∃ v, Rr W v ∧ K v := ⟨v, h, k⟩
theorem rngh {R : Type} {W : (R → Prop) → Prop} {v : R} {p : Prop} {K : R → Prop} (h : Rr W v) (k : K v) : ∃ v, (p → Rr W v) ∧ K v := ⟨v, fun _ => h, k⟩
theorem rng {R : Type} {W W' : (R → Prop) → Prop} {c : Bool} [u : Uf W W'] [Gm W] {K : R → Prop} (hc : c = true) (h : W' K) : ∃ v, (c = true → Rr W v) ∧ K v := let ⟨v, h1, h2⟩ := rnc h; ⟨v, fun _ => h1, h2⟩
theorem rns {R : Type} [Inhabited R] {W : (R → Prop) → Prop} {c : Bool} {K : R → Prop} (hc : c = false) (h : K default) : ∃ v, (c = true → Rr W v) ∧ K v := ⟨default, fun e => (by rw [hc] at e; cases e), h⟩
theorem rnt {c : Bool} {A B : Prop} (hc : c = true) (h : A) : ct c A B := ⟨fun _ => h, fun e => (by rw [hc] at e; cases e)⟩
theorem Ye {c : Bool} {A B : Prop} (hc : c = false) (h : B) : ct c A B := ⟨fun e => (by rw [hc] at e; cases e), fun _ => h⟩
theorem rnx {α : Type} {L : List α} {n : Int} {x : α} {K : α → Prop} (h0 : 0 ≤ n) (hx : L[n.toNat]? = some x) (k : K x) : ∃ v, ix L n v ∧ K v := ⟨x, ⟨h0, hx⟩, k⟩
theorem rnxg {α : Type} {L : List α} {n : Int} {c : Bool} {x : α} {K : α → Prop} (hc : c = true) (h0 : 0 ≤ n) (hx : L[n.toNat]? = some x) (k : K x) : ∃ v, (c = true → ix L n v) ∧ K v := ⟨x, fun _ => ⟨h0, hx⟩, k⟩
theorem rnxs {α : Type} [Inhabited α] {L : List α} {n : Int} {c : Bool} {K : α → Prop} (hc : c = false) (k : K default) : ∃ v, (c = true → ix L n v) ∧ K v := ⟨default, fun e => (by rw [hc] at e; cases e), k⟩
theorem rnb {s : ByteArray} {n : Int} {b : UInt8} {K : Int → Prop} (h0 : 0 ≤ n) (hb : s[n.toNat]? = some b) (k : K (b.toNat : Int)) : ∃ v, bx s n v ∧ K v := ⟨_, ⟨h0, b, hb, rfl⟩, k⟩
theorem rnbg {s : ByteArray} {n : Int} {c : Bool} {b : UInt8} {K : Int → Prop} (hc : c = true) (h0 : 0 ≤ n) (hb : s[n.toNat]? = some b) (k : K (b.toNat : Int)) : ∃ v, (c = true → bx s n v) ∧ K v := ⟨_, fun _ => ⟨h0, b, hb, rfl⟩, k⟩
theorem rnbs {s : ByteArray} {n : Int} {c : Bool} {K : Int → Prop} (hc : c = false) (k : K 0) : ∃ v, (c = true → bx s n v) ∧ K v := ⟨0, fun e => (by rw [hc] at e; cases e), k⟩
theorem rnl {σ : Type} {I : σ → Prop} {m : σ → Nat} {S : σ → St → Option St} {step : (σ → Prop) → σ → Prop} {s : σ} (h : ∀ Y : σ → Prop, (∀ s, step Y s → Y s) → step Y s) : lv I m S step s := fun Y hY => hY s (h Y hY)
theorem rnlo {σ : Type} {S : σ → St → Option St} {step : (σ → Prop) → σ → Prop} {s : σ} (h : ∀ Y : σ → Prop, (∀ s, step Y s → Y s) → step Y s) : Go.Proofs.YtimfmcpbkdpmoaaGreat.lo S step s := fun Y hY => hY s (h Y hY)
theorem rnj {α : Type} {S : α → St → Option St} {k : α → Prop} {m : (α → Prop) → Prop} (h : m k) : jo S k m := h
theorem tl1 (b : UInt8) : (⟨#[b]⟩ : ByteArray).toList = [b] := by
 unfold ByteArray.toList
 unfold ByteArray.toList.loop
 rw [if_pos (show 0 < (⟨#[b]⟩ : ByteArray).size from Nat.zero_lt_one)]
 unfold ByteArray.toList.loop
 rw [if_neg (show ¬ 0 + 1 < (⟨#[b]⟩ : ByteArray).size from Nat.lt_irrefl 1)]
 rfl
theorem tl0 : ByteArray.empty.toList = [] := by
 unfold ByteArray.toList
 unfold ByteArray.toList.loop
 rw [if_neg (by decide)]
 rfl
theorem tlN : (⟨#[]⟩ : ByteArray).toList = [] := tl0
theorem wrN (n : Int) (h : (decide (-9223372036854775808 ≤ n) && decide (n < 9223372036854775808)) = true) : IntKind.i64.wrap n = n := by
 simp only [Bool.and_eq_true, decide_eq_true_eq] at h
 exact Zp (by omega)
theorem Bv {R : Type} {W W' : (R → Prop) → Prop} (h : ∀ Q, W Q = W' Q) : Uf W W' := ⟨h⟩
theorem UN {p : Prop} (h : p := by
 repeat' first | (with_reducible refine XH ?_) | (with_reducible refine rnj ?_) | (with_reducible refine rnl fun Y hY => ?_) | (with_reducible refine rnlo fun Y hY => ?_) | dsimp only | (with_reducible refine rnh (by with_reducible assumption) ?_) | (with_reducible refine rngh (by with_reducible assumption) ?_) | (with_reducible refine rnt (by first | decide | with_unfolding_all rfl | (simp only [tl1, tl0, tlN]; first | decide | with_unfolding_all rfl) | (simp only [beq_self_eq_true]; with_unfolding_all rfl) | (simp only [decide_eq_true_eq, decide_eq_false_iff_not, Fl, Co, Bool.and_eq_true, Bool.or_eq_true, Bool.or_eq_false_iff, Bool.not_eq_true', Bool.not_eq_false', beq_iff_eq, bne_iff_ne, beq_eq_false_iff_ne, bne_eq_false_iff_eq, List.length_cons, List.length_nil]; omega)) ?_) | (with_reducible refine Ye (by first | decide | with_unfolding_all rfl | (simp only [tl1, tl0, tlN]; first | decide | with_unfolding_all rfl) | (simp only [beq_self_eq_true]; with_unfolding_all rfl) | (simp only [decide_eq_true_eq, decide_eq_false_iff_not, Fl, Co, Bool.and_eq_true, Bool.or_eq_true, Bool.or_eq_false_iff, Bool.not_eq_true', Bool.not_eq_false', beq_iff_eq, bne_iff_ne, beq_eq_false_iff_ne, bne_eq_false_iff_eq, List.length_cons, List.length_nil]; omega)) ?_) | (with_reducible refine rnx (by decide) rfl ?_) | (with_reducible refine rnxg (by first | decide | with_unfolding_all rfl | (simp only [tl1, tl0, tlN]; first | decide | with_unfolding_all rfl) | (simp only [beq_self_eq_true]; with_unfolding_all rfl) | (simp only [decide_eq_true_eq, decide_eq_false_iff_not, Fl, Co, Bool.and_eq_true, Bool.or_eq_true, Bool.or_eq_false_iff, Bool.not_eq_true', Bool.not_eq_false', beq_iff_eq, bne_iff_ne, beq_eq_false_iff_ne, bne_eq_false_iff_eq, List.length_cons, List.length_nil]; omega)) (by decide) rfl ?_) | (with_reducible refine rnxs (by first | decide | with_unfolding_all rfl | (simp only [tl1, tl0, tlN]; first | decide | with_unfolding_all rfl) | (simp only [beq_self_eq_true]; with_unfolding_all rfl) | (simp only [decide_eq_true_eq, decide_eq_false_iff_not, Fl, Co, Bool.and_eq_true, Bool.or_eq_true, Bool.or_eq_false_iff, Bool.not_eq_true', Bool.not_eq_false', beq_iff_eq, bne_iff_ne, beq_eq_false_iff_ne, bne_eq_false_iff_eq, List.length_cons, List.length_nil]; omega)) ?_) | (with_reducible refine rnb (by decide) rfl ?_) | (with_reducible refine rnbg (by first | decide | with_unfolding_all rfl | (simp only [tl1, tl0, tlN]; first | decide | with_unfolding_all rfl) | (simp only [beq_self_eq_true]; with_unfolding_all rfl) | (simp only [decide_eq_true_eq, decide_eq_false_iff_not, Fl, Co, Bool.and_eq_true, Bool.or_eq_true, Bool.or_eq_false_iff, Bool.not_eq_true', Bool.not_eq_false', beq_iff_eq, bne_iff_ne, beq_eq_false_iff_ne, bne_eq_false_iff_eq, List.length_cons, List.length_nil]; omega)) (by decide) rfl ?_) | (with_reducible refine rnbs (by first | decide | with_unfolding_all rfl | (simp only [tl1, tl0, tlN]; first | decide | with_unfolding_all rfl) | (simp only [beq_self_eq_true]; with_unfolding_all rfl) | (simp only [decide_eq_true_eq, decide_eq_false_iff_not, Fl, Co, Bool.and_eq_true, Bool.or_eq_true, Bool.or_eq_false_iff, Bool.not_eq_true', Bool.not_eq_false', beq_iff_eq, bne_iff_ne, beq_eq_false_iff_ne, bne_eq_false_iff_eq, List.length_cons, List.length_nil]; omega)) ?_) | (with_reducible refine rnc ?_) | (with_reducible refine rng (by first | decide | with_unfolding_all rfl | (simp only [tl1, tl0, tlN]; first | decide | with_unfolding_all rfl) | (simp only [beq_self_eq_true]; with_unfolding_all rfl) | (simp only [decide_eq_true_eq, decide_eq_false_iff_not, Fl, Co, Bool.and_eq_true, Bool.or_eq_true, Bool.or_eq_false_iff, Bool.not_eq_true', Bool.not_eq_false', beq_iff_eq, bne_iff_ne, beq_eq_false_iff_ne, bne_eq_false_iff_eq, List.length_cons, List.length_nil]; omega)) ?_) | (with_reducible refine rns (by first | decide | with_unfolding_all rfl | (simp only [tl1, tl0, tlN]; first | decide | with_unfolding_all rfl) | (simp only [beq_self_eq_true]; with_unfolding_all rfl) | (simp only [decide_eq_true_eq, decide_eq_false_iff_not, Fl, Co, Bool.and_eq_true, Bool.or_eq_true, Bool.or_eq_false_iff, Bool.not_eq_true', Bool.not_eq_false', beq_iff_eq, bne_iff_ne, beq_eq_false_iff_ne, bne_eq_false_iff_eq, List.length_cons, List.length_nil]; omega)) ?_) | (simp only [wrN, Int.reduceAdd, Int.reduceSub, Int.reduceNeg, Int.reduceLE, Int.reduceLT, decide_true, Bool.and_self]; with_reducible apply_assumption only [*]) | (with_reducible apply_assumption only [*]) | (with_reducible refine And.intro (by first | decide | omega) ?_) | (simp only [wrN, Int.reduceAdd, Int.reduceSub, Int.reduceNeg, Int.reduceLE, Int.reduceLT, decide_true, Bool.and_self]; done) | exact rfl
 all_goals fail) : p := h
end Go.Proofs.YtimfmcpbkdpmoaaGreat

namespace Go.Proofs.YtimfmcpbkdpmoaaGreat
open Go.RowKit
def pgM (c : Nat) : List (List Int) → List Qx
 | [] => []
 | d :: l => ⟨(c : Int) + 1, 1, d⟩ :: pgM (c + 1) l
def GV (cs : List (List Int)) : List Qx := pgM 0 cs
theorem Qbn {α : Type} {l : List α} {j : Nat} (h : j < l.length) : l.take (j + 1) = l.take j ++ [l[j]] := by rw [List.take_add_one]; simp [h]
theorem Qqq (c : Nat) (cs : List (List Int)) : (pgM c cs).length = cs.length := by
 induction cs generalizing c with
 | nil => rfl
 | cons d l ih => simp [pgM, ih]
theorem Qxt (c : Nat) (cs : List (List Int)) (k : Nat) : (pgM c cs)[k]? = (cs[k]?).map fun d => ⟨(c : Int) + k + 1, 1, d⟩ := by
 induction cs generalizing c k with
 | nil => simp [pgM]
 | cons d l ih =>
  cases k with
  | zero => simp [pgM]
  | succ k =>
   simp only [pgM, List.getElem?_cons_succ, ih]
   congr 1
   funext d
   congr 1
   omega
theorem Qqr (c : Nat) (a b : List (List Int)) : pgM c (a ++ b) = pgM c a ++ pgM (c + a.length) b := by
 induction a generalizing c with
 | nil => simp [pgM]
 | cons d l ih => simp only [List.cons_append, pgM, ih, List.length_cons]; congr 3; omega
theorem M3 (cs : List (List Int)) : (GV cs).length = cs.length := Qqq 0 cs
theorem Q07 (cs : List (List Int)) (k : Nat) : (GV cs)[k]? = (cs[k]?).map fun d => ⟨(k : Int) + 1, 1, d⟩ := by
 unfold GV; rw [Qxt]; congr 1; funext d; congr 1; simp
theorem Qqs (cs : List (List Int)) (d : List Int) : GV cs ++ [⟨(cs.length : Int) + 1, 1, d⟩] = GV (cs ++ [d]) := by
 unfold GV; rw [Qqr]; simp [pgM]
theorem Qbo {cap : Int} {cs : List (List Int)} {n : Int} (hc : cs.length ≤ 100000) (h1 : 1 ≤ n) : Rr (Jf ⟨cap, GV cs⟩ n) (if n ≤ (cs.length : Int) then n - 1 else -1) := by
 unfold Rr
 rw [Jf.eq_1]
 dsimp only
 refine Fo (XM (I := fun k s => ∃ j : Nat, s = (j : Int) ∧ j ≤ cs.length ∧ (j : Int) < n ∧ k = cs.length - j) ?_ (k := cs.length) ⟨0, rfl, by omega, by omega, rfl⟩)
 rintro k s ⟨j, rfl, hj, hn, hk⟩ X hX
 rw [M3]
 refine KL (fun c => ?_) fun c => ?_
 ·have hj2 : j < cs.length := by simpa using c
  refine ⟨⟨(j : Int) + 1, 1, cs[j]⟩, ⟨by omega, by rw [Int.toNat_natCast, Q07]; simp [hj2]⟩, KL (fun e => ?_) fun e => ?_⟩
  ·have e' : (j : Int) + 1 = n := by simpa using e
   rw [if_pos (by omega)]; omega
  ·have e' : ¬ (j : Int) + 1 = n := by simpa using e
   rw [Zp (by omega)]
   exact hX (cs.length - (j + 1)) _ (by omega) ⟨j + 1, by omega, by omega, by omega, rfl⟩
 ·have hj2 : ¬ j < cs.length := by simpa using c
  rw [if_neg (by omega)]
theorem Qqt {cap : Int} {cs : List (List Int)} {d : List Int} (hd : d.length ≤ 1024) (hc : (cs.length : Int) < cap) (hcap : cap ≤ 16384) : Rr (V3 ⟨cap, GV cs⟩ d) (⟨cap, GV (cs ++ [d])⟩, (cs.length : Int) + 1, 0) := by
 unfold Rr
 rw [V3.eq_1]
 dsimp only
 rw [M3]
 refine KL (fun c => by simp at c; omega) fun _ => KL (fun c => by simp at c; omega) fun _ => HV (fun p => p = (cs.length : Int) + 1) ?_ fun J hJ => ?_
 ·rintro _ rfl
  refine ⟨by omega, by omega, XH ⟨by simp only [List.length_cons, List.length_nil]; omega, ?_⟩⟩
  refine Fo (rnl fun Y hY => ?_)
  dsimp only
  rw [Qqs, M3]
  have e : IntKind.i64.wrap (((cs ++ [d]).length : Int) - 1) = (cs.length : Int) := by
   rw [List.length_append, List.length_cons, List.length_nil, Zp (by omega)]; omega
  rw [e]
  by_cases z : cs.length = 0
  ·refine ⟨default, fun c => by simp at c; omega, default, fun c => by simp at c; omega, KL (fun c => ?_) fun _ => rfl⟩
   simp only [Fl, Bool.and_eq_true, decide_eq_true_eq] at c; omega
  ·have w : IntKind.i64.wrap ((cs.length : Int) - 1) = ((cs.length - 1 : Nat) : Int) := by rw [Zp (by omega)]; omega
   have q : cs.length - 1 < cs.length := by omega
   refine ⟨⟨(cs.length : Int) + 1, 1, d⟩, fun _ => ⟨by omega, by rw [Int.toNat_natCast, Q07]; simp⟩, ⟨((cs.length - 1 : Nat) : Int) + 1, 1, cs[cs.length - 1]⟩, fun _ => ⟨by omega, by rw [w, Int.toNat_natCast, Q07, List.getElem?_append_left q]; simp [q]⟩, KL (fun c => ?_) fun _ => rfl⟩
   simp only [Fl, Bool.and_eq_true, decide_eq_true_eq] at c; omega
 ·refine XM (I := fun k s => ∃ j : Nat, s = (j : Int) + 1 ∧ j ≤ cs.length ∧ k = cs.length - j) ?_ (k := cs.length) ⟨0, rfl, by omega, rfl⟩
  rintro k s ⟨j, rfl, hj, hk⟩ X hX
  refine ⟨_, Qbo (by omega) (by omega), KL (fun c => ?_) fun c => hJ _ ?_⟩
  ·split at c
   ·rw [Zp (by omega)]
    exact hX (cs.length - (j + 1)) _ (by omega) ⟨j + 1, by omega, by omega, rfl⟩
   ·simp at c
  ·split at c
   ·(simp at c) <;> omega
   ·omega
theorem Qxu {cap : Int} {cs : List (List Int)} {k : Nat} {d : List Int} (hc : cs.length ≤ 100000) (hk : cs[k]? = some d) (hd : d.length ≤ 100000) : Rr (Xv ⟨cap, GV cs⟩ ((k : Int) + 1)) (d, 0) := by
 have hk2 := (List.getElem?_eq_some_iff.1 hk).1
 unfold Rr
 rw [Xv.eq_1]
 refine ⟨_, Qbo hc (by omega), ?_⟩
 rw [if_pos (by omega)]
 refine KL (fun c => absurd c (by simp)) fun _ => ⟨⟨(k : Int) + 1, 1, d⟩, ⟨by omega, ?_⟩, by dsimp only; omega, rfl⟩
 rw [show ((k : Int) + 1 - 1).toNat = k by omega]
 dsimp only
 rw [Q07, hk]; rfl
def nums (c n : Nat) : List Int := (List.range n).map fun i => ((c + i : Nat) : Int) + 1
theorem Ho (c n : Nat) : (nums c n).length = n := by simp [nums]
theorem Qja (c n : Nat) : nums c n ++ [((c + n : Nat) : Int) + 1] = nums c (n + 1) := by simp [nums, List.range_succ]
theorem Qqu {c n i : Nat} (h : i < n) : (nums c n)[i]? = some (((c + i : Nat) : Int) + 1) := by simp [nums, h]
theorem drop_at {α : Type} {a l b : List α} {j : Nat} (h : j < l.length) : (a ++ l ++ b)[a.length + j]? = some l[j] := by
 rw [List.append_assoc, List.getElem?_append_right (by omega), show a.length + j - a.length = j by omega, List.getElem?_append_left h]; simp [h]
theorem Qjb {s : Q2} {v : Qq} {a l b : List (List Int)} (ha : s.fc2.fb0 = GV (a ++ l ++ b)) (hv : v.fb0 = nums a.length l.length) (hc : (a ++ l ++ b).length ≤ 100000) (hl : ∀ x ∈ l, x.length ≤ 1024) : Rr (JC s v) l := by
 unfold Rr
 rw [JC.eq_1]
 have hc2 : l.length ≤ 100000 := by simp only [List.length_append] at hc; omega
 refine Fo (XM (I := fun k s => ∃ j : Nat, s.2 = (j : Int) ∧ j ≤ l.length ∧ s.1 = l.take j ∧ k = l.length - j) ?_ (k := l.length) ⟨0, rfl, by omega, by simp, rfl⟩)
 rintro k ⟨p, i⟩ ⟨j, hj, hj1, hp, hk⟩ X hX
 dsimp only at hj hp ⊢
 subst hj hp
 rw [hv, Ho]
 refine KL (fun c => ?_) fun c => ?_
 ·have hj2 : j < l.length := by simpa using c
  have hm : l[j] ∈ l := List.getElem_mem hj2
  have hx := hl _ hm
  have e : s.fc2 = ⟨s.fc2.fc4, GV (a ++ l ++ b)⟩ := by rw [← ha]
  refine ⟨_, ⟨by omega, by rw [Int.toNat_natCast]; exact Qqu hj2⟩, (l[j], 0), ?_, XH ⟨by simp only [List.length_take, List.length_cons, List.length_nil]; omega, ?_⟩⟩
  ·rw [e]; exact Qxu hc (drop_at hj2) (by omega)
  ·rw [Zp (by omega)]
   refine hX (l.length - (j + 1)) _ (by omega) ⟨j + 1, by simp, by omega, ?_, rfl⟩
   rw [List.take_add_one]; simp [hj2]
 ·have : j = l.length := by simp at c; omega
  subst this; simp
theorem Qxv {l : List (List Int)} (hl : ∀ x ∈ l, x.length ≤ 1024) (hn : l.length ≤ 100000) : Rr (Xu l) l.flatten := by
 unfold Rr
 rw [Xu.eq_1]
 have bl : ∀ j : Nat, j ≤ l.length → (l.take j).flatten.length ≤ 1024 * j := by
  intro j
  induction j with
  | zero => intro _; simp
  | succ j ih =>
   intro h
   have hj : j < l.length := by omega
   have := ih (by omega)
   have hm := hl _ (List.getElem_mem hj)
   rw [List.take_add_one]
   simp only [List.getElem?_eq_getElem hj, Option.toList_some, List.flatten_append, List.length_append, List.flatten_cons, List.flatten_nil, List.append_nil]
   omega
 refine Fo (XM (I := fun k s => ∃ j : Nat, s.2 = (j : Int) ∧ j ≤ l.length ∧ s.1 = (l.take j).flatten ∧ k = l.length - j) ?_ (k := l.length) ⟨0, rfl, by omega, by simp, rfl⟩)
 rintro k ⟨p, i⟩ ⟨j, hj, hj1, hp, hk⟩ X hX
 dsimp only at hj hp ⊢
 subst hj hp
 have b := bl j hj1
 refine KL (fun c => ?_) fun c => ?_
 ·have hj2 : j < l.length := by simpa using c
  have hm := hl _ (List.getElem_mem hj2)
  refine ⟨_, CM hj2, by omega, ?_⟩
  rw [Zp (by omega)]
  refine hX (l.length - (j + 1)) _ (by omega) ⟨j + 1, by simp, by omega, ?_, rfl⟩
  rw [Qbn hj2, List.flatten_append]; simp
 ·have : j = l.length := by simp at c; omega
  subst this; simp
theorem Qbp {b : List Int} {z : Int} (hb : b.length ≤ 100000) (hz : 1 ≤ z ∧ z ≤ 1024) : ∃ l, Rr (Kf b z) (l, 0) ∧ l.flatten = b ∧ (∀ x ∈ l, x.length ≤ 1024) ∧ l.length ≤ b.length := by
 suffices h : ∃ r, Rr (Kf b z) r ∧ ((r.1.flatten = b ∧ (∀ x ∈ r.1, x.length ≤ 1024) ∧ r.1.length ≤ b.length) ∧ r.2 = 0) by
  obtain ⟨⟨l, e⟩, h1, h2, h3⟩ := h
  dsimp only at h2 h3
  subst h3
  exact ⟨l, h1, h2⟩
 refine ex_ ?_
 rw [Kf.eq_1]
 refine KL (fun c => ?_) fun _ => XH (Fo ?_)
 ·simp only [Co, Bool.or_eq_true, decide_eq_true_eq] at c; omega
 refine XM (I := fun k s => ∃ j : Nat, s.2 = (j : Int) ∧ j ≤ b.length + 1024 ∧ s.1.flatten = b.take j ∧ (∀ x ∈ s.1, x.length ≤ 1024) ∧ s.1.length ≤ b.length ∧ (j < b.length → s.1.length ≤ j) ∧ k = b.length + 1024 - j) ?_ (k := b.length + 1024) ⟨0, rfl, by omega, by simp, VS, by simp, fun _ => by simp, rfl⟩
 rintro k ⟨p, i⟩ ⟨j, hj, hj1, hp, h1, h2, h3, hk⟩ X hX
 dsimp only at hj hp h1 h2 h3 ⊢
 subst hj
 refine KL (fun c => ?_) fun c => ?_
 ·have hj2 : j < b.length := by simpa using c
  have h4 := h3 hj2
  have w : IntKind.i64.wrap ((j : Int) + z) = ((j + z.toNat : Nat) : Int) := by rw [Zp (by omega)]; omega
  have m : Xd ((j + z.toNat : Nat) : Int) (b.length : Int) = ((min (j + z.toNat) b.length : Nat) : Int) := by rw [Q01]; omega
  rw [w, m, Int.toNat_natCast, Int.toNat_natCast]
  have dl : (List.drop j (List.take (min (j + z.toNat) b.length) b)).length = min (j + z.toNat) b.length - j := by
   rw [List.length_drop, List.length_take]; omega
  refine ⟨⟨by omega, by omega, by omega⟩, by rw [dl]; omega, XH ⟨by simp only [List.length_cons, List.length_nil]; omega, ?_⟩⟩
  refine hX (b.length + 1024 - (j + z.toNat)) _ (by omega) ⟨j + z.toNat, rfl, by omega, ?_, ZP h1 (KO (by rw [dl]; omega)), by simp only [List.length_append, List.length_cons, List.length_nil]; omega, fun q => by simp only [List.length_append, List.length_cons, List.length_nil]; omega, rfl⟩
  rw [List.flatten_append, hp]
  simp only [List.flatten_cons, List.flatten_nil, List.append_nil]
  rw [← show (b.take (min (j + z.toNat) b.length)).take j = b.take j by rw [List.take_take]; congr 1; omega, List.take_append_drop]
  exact List.take_eq_take_iff.2 (by omega)
 ·have hj2 : ¬ j < b.length := by simpa using c
  exact ⟨⟨by rw [hp, List.take_of_length_le (by omega)], h1, h2⟩, rfl⟩
set_option maxRecDepth 100000
instance {a0 : Int} {a1 : Int} {a2 : Int} : type_of% (Bv (Ku.eq_1 a0 a1 a2)) := Bv (Ku.eq_1 a0 a1 a2)
instance {a0 : Int} {a1 : Int} {a2 : Int} : type_of% (Bv (KT.eq_1 a0 a1 a2)) := Bv (KT.eq_1 a0 a1 a2)
instance {a0 : ByteArray} : type_of% (Bv (QP.eq_1 a0)) := Bv (QP.eq_1 a0)
instance {a0 : (List Qg)} : type_of% (Bv (Z7.eq_1 a0)) := Bv (Z7.eq_1 a0)
instance {a0 : (List Qg)} {a1 : Int} : type_of% (Bv (Vo.eq_1 a0 a1)) := Bv (Vo.eq_1 a0 a1)
instance {a0 : (List Qg)} {a1 : Qg} : type_of% (Bv (V4.eq_1 a0 a1)) := Bv (V4.eq_1 a0 a1)
instance {a0 : (List Qg)} {a1 : ByteArray} {a2 : Int} {a3 : Int} : type_of% (Bv (ZU.eq_1 a0 a1 a2 a3)) := Bv (ZU.eq_1 a0 a1 a2 a3)
instance {a0 : (List Qg)} {a1 : Int} : type_of% (Bv (ZT.eq_1 a0 a1)) := Bv (ZT.eq_1 a0 a1)
instance {a0 : (List Qg)} {a1 : ByteArray} {a2 : Int} : type_of% (Bv (JA.eq_1 a0 a1 a2)) := Bv (JA.eq_1 a0 a1 a2)
instance {a0 : Q2} {a1 : ByteArray} : type_of% (Bv (Z6.eq_1 a0 a1)) := Bv (Z6.eq_1 a0 a1)
instance {a0 : (List Qu)} {a1 : Int} : type_of% (Bv (JB.eq_1 a0 a1)) := Bv (JB.eq_1 a0 a1)
instance {a0 : (List Qq)} {a1 : Int} : type_of% (Bv (K7.eq_1 a0 a1)) := Bv (K7.eq_1 a0 a1)
instance {a0 : Q2} {a1 : ByteArray} {a2 : Int} : type_of% (Bv (Zl.eq_1 a0 a1 a2)) := Bv (Zl.eq_1 a0 a1 a2)
instance {a0 : Q2} {a1 : Int} : type_of% (Bv (Jz.eq_1 a0 a1)) := Bv (Jz.eq_1 a0 a1)
instance {a0 : Int} {a1 : Int} {a2 : Int} : type_of% (Bv (Zj.eq_1 a0 a1 a2)) := Bv (Zj.eq_1 a0 a1 a2)
instance {a0 : Q2} {a1 : Int} : type_of% (Bv (ZB.eq_1 a0 a1)) := Bv (ZB.eq_1 a0 a1)
instance {a0 : Q2} {a1 : ByteArray} {a2 : Int} : type_of% (Bv (Zh.eq_1 a0 a1 a2)) := Bv (Zh.eq_1 a0 a1 a2)
instance {a0 : (List QD)} : type_of% (Bv (ZA.eq_1 a0)) := Bv (ZA.eq_1 a0)
instance {a0 : (List QD)} {a1 : Int} : type_of% (Bv (Vj.eq_1 a0 a1)) := Bv (Vj.eq_1 a0 a1)
instance {a0 : Int} {a1 : Int} {a2 : Int} : type_of% (Bv (JP.eq_1 a0 a1 a2)) := Bv (JP.eq_1 a0 a1 a2)
instance {a0 : (List QD)} : type_of% (Bv (VN.eq_1 a0)) := Bv (VN.eq_1 a0)
instance {a0 : Q2} {a1 : Int} : type_of% (Bv (Kw.eq_1 a0 a1)) := Bv (Kw.eq_1 a0 a1)
instance {a0 : Int} : type_of% (Bv (KR.eq_1 a0)) := Bv (KR.eq_1 a0)
theorem OY {s : Q2} {nm : ByteArray} {d : List Int} {l cs : List (List Int)} {nl : List ByteArray} {bs : List Qg} {cap : Int}
  (hsp : Rr (Kf d s.fq.fb3) (l, 0)) (hz : ∀ x ∈ l, x.length ≤ 1024) (hn : Rr (QP nm) true) (hd : d.length ≤ 65536)
  (hb : Rr (Z6 s nm) false) (hl : Rr (ZT s.fb6 s.fa1) nl) (hnl : (nl.length : Int) < s.fq.fb8)
  (hc : 0 ≤ s.fa1 ∧ s.fa1 < s.fq.fc5) (hc2 : s.fa1 ≤ 1000000 ∧ 0 ≤ s.fd6 ∧ s.fd6 ≤ 1000000)
  (ha : s.fc2 = ⟨cap, GV cs⟩) (hcap : cap = s.fq.fb0 ∧ cap ≤ 16384 ∧ (cs.length : Int) + l.length ≤ cap) (hobj : s.fa9.length ≤ 1000)
  (hbd : Rr (ZU s.fb6 nm (s.fd6 + 1) (s.fa1 + 1)) (bs, 0)) :
  Rr (Kq s nm d) (⟨s.fq, s.fa1 + 1, s.fd6 + 1, s.fa9 ++ [⟨s.fd6 + 1, [⟨s.fa1 + 1, 0, d.length, nums cs.length l.length⟩]⟩], bs, s.fc3, ⟨cap, GV (cs ++ l)⟩⟩, s.fa1 + 1, 0) := by
 have hlv : Rr (VO s) (cs.length : Int) := by
  unfold Rr; rw [VO.eq_1, ha]; dsimp only; rw [M3]
 have w1 : IntKind.i64.wrap (s.fa1 + 1) = s.fa1 + 1 := Zp (by omega)
 have w2 : IntKind.i64.wrap (s.fd6 + 1) = s.fd6 + 1 := Zp (by omega)
 have w3 : IntKind.i64.wrap ((cs.length : Int) + (l.length : Int)) = (cs.length : Int) + (l.length : Int) := Zp (by omega)
 unfold Rr
 rw [Kq.eq_1, w1, w2]
 refine ⟨_, hsp, _, hn, Ye (by decide) (Ye (by simp; omega) ⟨_, hb, Ye rfl ⟨_, hl, Ye (by simp; omega) (Ye (by simp; omega) ⟨_, hlv, XH ?_⟩)⟩⟩)⟩
 dsimp only
 rw [w3, ha]
 refine Ye (by simp; omega) (HV (fun p => p = (cap, GV (cs ++ l), nums cs.length l.length)) ?_ fun J hJ => ?_)
 ·rintro _ rfl
  refine ⟨by omega, XH (XH ⟨by simp only [List.length_cons, List.length_nil]; omega, _, hbd, rfl⟩)⟩
 ·refine XM (I := fun k st => ∃ j : Nat, j ≤ l.length ∧ st = (l, (j : Int), cap, GV (cs ++ l.take j), nums cs.length j) ∧ k = l.length - j) ?_ (k := l.length) ⟨0, by omega, by simp [nums], rfl⟩
  rintro k _ ⟨j, hj, rfl, hk⟩ X hX
  dsimp only
  refine KL (fun c => ?_) fun c => hJ _ ?_
  ·have hj2 : j < l.length := by simpa using c
   have ln : (cs ++ l.take j).length = cs.length + j := by rw [List.length_append, List.length_take]; omega
   have al := Qqt (cap := cap) (cs := cs ++ l.take j) (d := l[j]) (hz _ (List.getElem_mem hj2)) (by omega) hcap.2.1
   refine ⟨_, CM hj2, _, al, XH ⟨by rw [Ho]; simp only [List.length_cons, List.length_nil]; omega, ?_⟩⟩
   rw [Zp (by omega)]
   refine hX (l.length - (j + 1)) _ (by omega) ⟨j + 1, by omega, ?_, rfl⟩
   dsimp only
   rw [ln, Qja, Qbn hj2, List.append_assoc]
   rfl
  ·have : j = l.length := by simp at c; omega
   subst this
   rw [List.take_length]
abbrev nA : ByteArray := ⟨#[97]⟩
abbrev nB : ByteArray := ⟨#[98]⟩
abbrev nC : ByteArray := ⟨#[99]⟩
abbrev iA : Qg := ⟨⟨#[97]⟩, 1, 1, 0⟩
abbrev iB : Qg := ⟨⟨#[98]⟩, 2, 2, 0⟩
abbrev iC : Qg := ⟨⟨#[99]⟩, 3, 3, 0⟩
abbrev ob (i z : Int) (p : List Int) : Qu := ⟨i, [⟨i, 0, z, p⟩]⟩
theorem Qdq : Rr (QP nA) true := by
 unfold Rr; rw [QP.eq_1]
 exact UN
theorem Qjc : Rr (QP nB) true := by
 unfold Rr; rw [QP.eq_1]
 exact UN
theorem Qxw : Rr (QP nC) true := by
 unfold Rr; rw [QP.eq_1]
 exact UN
theorem bnd0 : Rr (ZU [] nA 1 1) ([iA], 0) := by
 have := Qdq
 unfold Rr; rw [ZU.eq_1]
 exact UN
theorem bnd1 : Rr (ZU [iA] nB 2 2) ([iA, iB], 0) := by
 have := Qdq
 have := Qjc
 unfold Rr; rw [ZU.eq_1]
 exact UN
theorem bnd2 : Rr (ZU [iA, iB] nC 3 3) ([iA, iB, iC], 0) := by
 have := Qdq
 have := Qjc
 have := Qxw
 unfold Rr; rw [ZU.eq_1]
 exact UN
theorem lst0 : Rr (ZT [] 0) [] := by
 unfold Rr; rw [ZT.eq_1]
 exact UN
theorem lst1 : Rr (ZT [iA] 1) [nA] := by
 unfold Rr; rw [ZT.eq_1]
 exact UN
theorem lst2 : Rr (ZT [iA, iB] 2) [nA, nB] := by
 unfold Rr; rw [ZT.eq_1]
 exact UN
section
variable {g : Qo} {za zb zc cap : Int} {pa pb pc : List Int} {pg : List Qx} {pn : List QD}
theorem bd0 : Rr (Z6 ⟨g, 0, 0, [], [], pn, ⟨cap, pg⟩⟩ nA) false := by
 unfold Rr; rw [Z6.eq_1]
 exact UN
theorem bd1 : Rr (Z6 ⟨g, 1, 1, [ob 1 za pa], [iA], pn, ⟨cap, pg⟩⟩ nB) false := by
 unfold Rr; rw [Z6.eq_1]
 exact UN
theorem bd2 : Rr (Z6 ⟨g, 2, 2, [ob 1 za pa, ob 2 zb pb], [iA, iB], pn, ⟨cap, pg⟩⟩ nC) false := by
 unfold Rr; rw [Z6.eq_1]
 exact UN
abbrev sT (g : Qo) (za zb zc : Int) (pa pb pc : List Int) (pn : List QD) (cap : Int) (pg : List Qx) : Q2 := ⟨g, 3, 3, [ob 1 za pa, ob 2 zb pb, ob 3 zc pc], [iA, iB, iC], pn, ⟨cap, pg⟩⟩
theorem bdA : Rr (Z6 (sT g za zb zc pa pb pc pn cap pg) nA) true := by
 unfold Rr; rw [Z6.eq_1]
 exact UN
theorem Qjd : Rr (ZB (sT g za zb zc pa pb pc pn cap pg) 3) 0 := by
 unfold Rr; rw [ZB.eq_1]
 exact UN
theorem verA : Rr (Zl (sT g za zb zc pa pb pc pn cap pg) nA 3) (0, ⟨1, 0, za, pa⟩, true) := by
 unfold Rr; rw [Zl.eq_1]
 exact UN
theorem verB : Rr (Zl (sT g za zb zc pa pb pc pn cap pg) nB 3) (1, ⟨2, 0, zb, pb⟩, true) := by
 unfold Rr; rw [Zl.eq_1]
 exact UN
theorem vrsA : Rr (Zh (sT g za zb zc pa pb pc pn cap pg) nA 3) (1, 1, 0) := by
 have := Qjd (g := g) (za := za) (zb := zb) (zc := zc) (pa := pa) (pb := pb) (pc := pc) (pn := pn) (cap := cap) (pg := pg)
 have := verA (g := g) (za := za) (zb := zb) (zc := zc) (pa := pa) (pb := pb) (pc := pc) (pn := pn) (cap := cap) (pg := pg)
 unfold Rr; rw [Zh.eq_1]
 exact UN
theorem vrsB : Rr (Zh (sT g za zb zc pa pb pc pn cap pg) nB 3) (2, 2, 0) := by
 have := Qjd (g := g) (za := za) (zb := zb) (zc := zc) (pa := pa) (pb := pb) (pc := pc) (pn := pn) (cap := cap) (pg := pg)
 have := verB (g := g) (za := za) (zb := zb) (zc := zc) (pa := pa) (pb := pb) (pc := pc) (pn := pn) (cap := cap) (pg := pg)
 unfold Rr; rw [Zh.eq_1]
 exact UN
theorem pin0 (h : g.fc3 = 9) : Rr (Kw (sT g za zb zc pa pb pc [] cap pg) 3) (sT g za zb zc pa pb pc [⟨3, 1⟩] cap pg, 0) := by
 have := Qjd (g := g) (za := za) (zb := zb) (zc := zc) (pa := pa) (pb := pb) (pc := pc) (pn := []) (cap := cap) (pg := pg)
 unfold Rr; rw [Kw.eq_1]
 dsimp only
 rw [h]
 exact UN
theorem pin1 (h : g.fc3 = 9) : Rr (Kw (sT g za zb zc pa pb pc [⟨3, 1⟩] cap pg) 3) (sT g za zb zc pa pb pc [⟨3, 2⟩] cap pg, 0) := by
 have := Qjd (g := g) (za := za) (zb := zb) (zc := zc) (pa := pa) (pb := pb) (pc := pc) (pn := [⟨3, 1⟩]) (cap := cap) (pg := pg)
 unfold Rr; rw [Kw.eq_1]
 dsimp only
 rw [h]
 exact UN
end
theorem Qqv {g : Qo} {za zb zc cap : Int} {a b c : List (List Int)} {pb pc : List Int} {pn : List QD} (hl : ∀ x ∈ a, x.length ≤ 1024) (hn : (a ++ b ++ c).length ≤ 100000) : Rr (Vf (sT g za zb zc (nums 0 a.length) pb pc pn cap (GV (a ++ b ++ c))) nA 3) (a.flatten, 0) := by
 unfold Rr; rw [Vf.eq_1]
 have hn2 : a.length ≤ 100000 := by simp only [List.length_append] at hn; omega
 exact ⟨_, Qjd, Ye rfl ⟨_, verA, Ye rfl ⟨_, Qjb (a := []) (l := a) (b := b ++ c) (by simp) rfl (by simpa using hn) hl, _, Qxv hl hn2, rfl⟩⟩⟩
set_option maxRecDepth 100000
instance {a0 : Int} {a1 : Int} {a2 : Int} : type_of% (Bv (Zd.eq_1 a0 a1 a2)) := Bv (Zd.eq_1 a0 a1 a2)
instance {a0 : Int} {a1 : (List Int)} : type_of% (Bv (QJ.eq_1 a0 a1)) := Bv (QJ.eq_1 a0 a1)
instance {a0 : Int} : type_of% (Bv (K6.eq_1 a0)) := Bv (K6.eq_1 a0)
instance {a0 : QF} {a1 : Bool} {a2 : Bool} : type_of% (Bv (Je.eq_1 a0 a1 a2)) := Bv (Je.eq_1 a0 a1 a2)
abbrev q0 : QQ := ⟨0, ByteArray.empty, 0, 0, 0⟩
abbrev p0 : Q9 := ⟨0, 0, 0, 0⟩
abbrev op1 (nm : ByteArray) (p : Q9) : QF := ⟨1, nm, ByteArray.empty, [], p, [], [], 0, 0, 0, 0, 0, 0, q0, []⟩
abbrev op9 : QF := ⟨9, ByteArray.empty, ByteArray.empty, [nA], p0, [], [], 0, 0, 0, 0, 0, 0, q0, []⟩
abbrev op6 (l : List Zc) : QF := ⟨6, nB, ByteArray.empty, [], p0, l, [], 0, 0, 0, 0, 0, 0, q0, []⟩
abbrev NC : QF := ⟨15, ByteArray.empty, ByteArray.empty, [], p0, [], [], 0, 0, 0, 0, 0, 0, q0, []⟩
abbrev us (a b c d e f g h i j k l m : Bool) : BA := ⟨a, b, c, d, e, f, g, h, i, j, k, l, m⟩
theorem in_no {k : Int} {l : List Int} (hl : l.length ≤ 100) (h : ∀ x ∈ l, x ≠ k) : Rr (QJ k l) false := by
 unfold Rr; rw [QJ.eq_1]
 refine Fo (XM (I := fun n s => ∃ j : Nat, s = (j : Int) ∧ j ≤ l.length ∧ n = l.length - j) ?_ (k := l.length) ⟨0, rfl, by omega, rfl⟩)
 rintro n s ⟨j, rfl, hj, hn⟩ X hX
 refine KL (fun c => ?_) fun _ => rfl
 have hj2 : j < l.length := by simpa using c
 refine ⟨_, CM hj2, KL (fun e => absurd (by simpa using e) (h _ (List.getElem_mem hj2))) fun _ => ?_⟩
 rw [Zp (by omega)]
 exact hX (l.length - (j + 1)) _ (by omega) ⟨j + 1, by omega, by omega, rfl⟩
theorem Qxx {k : Int} {l : List Int} (hl : l.length ≤ 100) (h : k ∈ l) : Rr (QJ k l) true := by
 unfold Rr; rw [QJ.eq_1]
 refine Fo (XM (I := fun n s => ∃ j : Nat, s = (j : Int) ∧ j ≤ l.length ∧ k ∈ l.drop j ∧ n = l.length - j) ?_ (k := l.length) ⟨0, rfl, by omega, by simpa using h, rfl⟩)
 rintro n s ⟨j, rfl, hj, hm, hn⟩ X hX
 refine KL (fun c => ?_) fun c => ?_
 ·have hj2 : j < l.length := by simpa using c
  rw [List.drop_eq_getElem_cons hj2] at hm
  refine ⟨_, CM hj2, KL (fun e => rfl) fun e => ?_⟩
  have e' : ¬ l[j] = k := by simpa using e
  rw [Zp (by omega)]
  refine hX (l.length - (j + 1)) _ (by omega) ⟨j + 1, by omega, by omega, ?_, rfl⟩
  rcases List.mem_cons.1 hm with q | q
  ·exact absurd q.symm e'
  ·exact q
 ·have : j = l.length := by simp at c; omega
  subst this; simp at hm
theorem Q08 {k : Int} {a b c d e f g h i j m n o : Bool} (h1 : Rr (QJ k [1, 2, 3, 5, 6, 7, 8, 16]) a) (h2 : Rr (QJ k [3, 7, 8]) b) (h3 : Rr (QJ k [9]) c) (h4 : Rr (QJ k [1]) d) (h5 : Rr (QJ k [6]) e) (h6 : Rr (QJ k [6, 7, 8]) f) (h7 : Rr (QJ k [8]) g) (h8 : Rr (QJ k [10, 11, 12, 15]) h) (h9 : Rr (QJ k [10, 12, 15]) i) (h10 : Rr (QJ k [13, 14]) j) (h11 : Rr (QJ k [13]) m) (h12 : Rr (QJ k [5, 10]) n) (h13 : Rr (QJ k [16]) o) : Rr (K6 k) (us a b c d e f g h i j m n o) := by
 unfold Rr; rw [K6.eq_1]
 exact XH ⟨_, h1, XH ⟨_, h2, XH ⟨_, h3, XH ⟨_, h4, XH ⟨_, h5, XH ⟨_, h6, XH ⟨_, h7, XH ⟨_, h8, XH ⟨_, h9, XH ⟨_, h10, XH ⟨_, h11, XH ⟨_, h12, XH ⟨_, h13, rfl⟩⟩⟩⟩⟩⟩⟩⟩⟩⟩⟩⟩⟩
theorem iy {k : Int} {l : List Int} (h : (decide (l.length ≤ 100) && l.contains k) = true) : Rr (QJ k l) true := by
 simp only [Bool.and_eq_true, decide_eq_true_eq, List.contains_iff_mem] at h
 exact Qxx h.1 h.2
theorem Ek {k : Int} {l : List Int} (h : (decide (l.length ≤ 100) && !l.contains k) = true) : Rr (QJ k l) false := by
 simp only [Bool.and_eq_true, decide_eq_true_eq, Bool.not_eq_true', List.contains_eq_mem, decide_eq_false_iff_not] at h
 exact in_no h.1 fun x hx e => h.2 (e ▸ hx)
theorem use1 : Rr (K6 1) (us true false false true false false false false false false false false false) := Q08 (iy rfl) (Ek rfl) (Ek rfl) (iy rfl) (Ek rfl) (Ek rfl) (Ek rfl) (Ek rfl) (Ek rfl) (Ek rfl) (Ek rfl) (Ek rfl) (Ek rfl)
theorem use9 : Rr (K6 9) (us false false true false false false false false false false false false false) := Q08 (Ek rfl) (Ek rfl) (iy rfl) (Ek rfl) (Ek rfl) (Ek rfl) (Ek rfl) (Ek rfl) (Ek rfl) (Ek rfl) (Ek rfl) (Ek rfl) (Ek rfl)
theorem use6 : Rr (K6 6) (us true false false false true true false false false false false false false) := Q08 (iy rfl) (Ek rfl) (Ek rfl) (Ek rfl) (iy rfl) (iy rfl) (Ek rfl) (Ek rfl) (Ek rfl) (Ek rfl) (Ek rfl) (Ek rfl) (Ek rfl)
theorem use15 : Rr (K6 15) (us false false false false false false false true true false false false false) := Q08 (Ek rfl) (Ek rfl) (Ek rfl) (Ek rfl) (Ek rfl) (Ek rfl) (Ek rfl) (iy rfl) (iy rfl) (Ek rfl) (Ek rfl) (Ek rfl) (Ek rfl)
theorem vld1 {nm : ByteArray} {p : Q9} (hn : Rr (QP nm) true) (hp : Rr (QE p) 0) : Rr (Z3 (op1 nm p)) 0 := by
 have := use1
 unfold Rr; rw [Z3.eq_1]
 exact UN
theorem vld9 : Rr (Z3 op9) 0 := by
 have := use9
 have := Qdq
 unfold Rr; rw [Z3.eq_1]
 exact UN
theorem vld15 : Rr (Z3 NC) 0 := by
 have := use15
 unfold Rr; rw [Z3.eq_1]
 exact UN
theorem Qxy {o : QF} {l : List Zc} (ho : o.fb7 = l) (hl : 1 ≤ l.length ∧ l.length ≤ 64) (h : ∀ x ∈ l, Rr (QB x) 0) : Rr (Je o false true) 0 := by
 have hw : Rr (Zd (l.length : Int) 1 64) true := by
  unfold Rr; rw [Zd.eq_1]
  have : (1 : Int) ≤ l.length := by omega
  have : (l.length : Int) ≤ 64 := by omega
  simp [*]
 unfold Rr; rw [Je.eq_1, ho]
 refine Fo (Ye rfl (Fo (rnt rfl ⟨_, hw, Ye rfl ?_⟩)))
 refine XM (I := fun n s => ∃ j : Nat, s = (j : Int) ∧ j ≤ l.length ∧ n = l.length - j) ?_ (k := l.length) ⟨0, rfl, by omega, rfl⟩
 rintro n s ⟨j, rfl, hj, hn⟩ X hX
 refine KL (fun c => ?_) fun _ => rfl
 have hj2 : j < l.length := by simpa using c
 refine ⟨_, CM hj2, _, h _ (List.getElem_mem hj2), Ye rfl ?_⟩
 rw [Zp (by omega)]
 exact hX (l.length - (j + 1)) _ (by omega) ⟨j + 1, by omega, by omega, rfl⟩
theorem vld6 {l : List Zc} (hl : 1 ≤ l.length ∧ l.length ≤ 64) (h : ∀ x ∈ l, Rr (QB x) 0) : Rr (Z3 (op6 l)) 0 := by
 have := use6
 have := Qjc
 have := Qxy (o := op6 l) rfl hl h
 unfold Rr; rw [Z3.eq_1]
 exact UN
def HX (c n : Int) : Int := max ((n + max c 1 - 1) / max c 1) 1
theorem Wc (c n : Int) : 1 ≤ HX c n := by unfold HX; omega
theorem Q5c {c n : Int} (h : 0 < n - max c 1) : HX c n = HX c (n - max c 1) + 1 := by
 unfold HX
 generalize hd : max c 1 = d at *
 have d0 : 0 < d := by omega
 have e1 : n + d - 1 = (n - 1) + d := by omega
 have e2 : n - d + d - 1 = n - 1 := by omega
 rw [e1, e2, Int.add_ediv_of_dvd_right (Int.dvd_refl d), Int.ediv_self (by omega)]
 have : 1 ≤ (n - 1) / d := Int.le_ediv_of_mul_le d0 (by omega)
 omega
structure Bsy (s : Q2) (x : Qa) : Prop where
 i : x.fOp.fa4 = 6 → (x.ff.fd0 = 0 ∨ (x.ff.fd0 = 1 ∧ LfO x.ff) ∨ x.ff.fd0 = 2) ∧ (x.ff.fd0 ≠ 0 → x.ff.fg4 ≤ s.fa1 ∧ (x.ff.fg4 = s.fa1 → Shw s [x.fOp.ff0] x.ff.fc1))
 o : x.fOp.fa4 = 9 → x.ff.fd0 = 0 ∨ (x.ff.fd0 = 1 ∧ LfO x.ff ∧ x.ff.fd8 ≤ (x.fOp.fb8.length : Int))
 m : x.fOp.fa4 = 16 → x.ff.fd0 = 0 ∨ (x.ff.fd0 = 1 ∧ LfO x.ff ∧ x.ff.fd8 ≤ pgF x.fOp.fd2.length s.fq.fb3) ∨ x.ff.fd0 = 2
def cur (c : Int) (n : Int) (m : Qe) : Int := if m.fd0 = 0 then 2 + HX c n else if m.fd0 = 1 then HX c m.fd8 + 1 else 1
def flg (s : Q2) (m : Qe) : Int := if m.fd0 = 0 ∨ m.fg4 = s.fa1 then 0 else 1
def rem (s : Q2) (p : Int) (x : Qa) : Int :=
 if x.fOp.fa4 = 6 then cur s.fq.fb4 x.fOp.fb7.length x.ff + (2 + HX s.fq.fb4 x.fOp.fb7.length) * (flg s x.ff + p - 1)
 else if x.fOp.fa4 = 9 then (if x.ff.fd0 = 0 then 1 + HX s.fq.fb4 x.fOp.fb8.length else HX s.fq.fb4 x.ff.fd8)
 else if x.fOp.fa4 = 16 then (if x.ff.fd0 = 0 then 2 + HX s.fq.fb4 (pgF x.fOp.fd2.length s.fq.fb3) else if x.ff.fd0 = 1 then HX s.fq.fb4 x.ff.fd8 + 1 else 1)
 else 1
theorem Qrv (c n : Int) (m : Qe) : 1 ≤ cur c n m := by
 unfold cur
 have := Wc c n
 have := Wc c m.fd8
 split <;> (try split) <;> omega
theorem Q16 (s : Q2) (m : Qe) : 0 ≤ flg s m ∧ flg s m ≤ 1 := by unfold flg; split <;> omega
theorem Qrw (s : Q2) (p : Int) (x : Qa) (hp : 1 ≤ p) : 1 ≤ rem s p x := by
 unfold rem
 have a := Qrv s.fq.fb4 x.fOp.fb7.length x.ff
 have b := Q16 s x.ff
 have := Wc s.fq.fb4 x.fOp.fb7.length
 have := Wc s.fq.fb4 x.fOp.fb8.length
 have := Wc s.fq.fb4 x.ff.fd8
 have := Wc s.fq.fb4 (pgF x.fOp.fd2.length s.fq.fb3)
 split
 ·have : 0 ≤ (2 + HX s.fq.fb4 x.fOp.fb7.length) * (flg s x.ff + p - 1) := Int.mul_nonneg (by omega) (by omega)
  omega
 ·repeat' split
  all_goals omega
theorem Bsy.kp {s t : Q2} {x : Qa} (h : Bsy s x) (k : Kp s t) : Bsy t x :=
 { i := fun e => ⟨(h.i e).1, fun f => ⟨by rw [k.c]; exact ((h.i e).2 f).1, fun g => (((h.i e).2 f).2 (by rw [← k.c]; exact g)).kp k⟩⟩, o := h.o, m := by rw [k.g]; exact h.m }
theorem Qy9 {s t : Q2} {x : Qa} {p : Int} (k : Kp s t) : rem t p x = rem s p x := by
 unfold rem flg; rw [k.c, k.g]
theorem Bsy.lt {s t : Q2} {x : Qa} (h : Bsy s x) (g : t.fq = s.fq) (k : s.fa1 < t.fa1) : Bsy t x :=
 { i := fun e => ⟨(h.i e).1, fun f => ⟨by have := ((h.i e).2 f).1; omega, fun g => by have := ((h.i e).2 f).1; omega⟩⟩, o := h.o, m := by rw [g]; exact h.m }
theorem Qrx {s t : Q2} {x : Qa} {p : Int} (g : t.fq = s.fq) : rem t (p - 1) x ≤ rem s p x := by
 unfold rem
 rw [g]
 have b := Q16 s x.ff
 have b2 := Q16 t x.ff
 have := Wc s.fq.fb4 x.fOp.fb7.length
 split
 ·have : (2 + HX s.fq.fb4 x.fOp.fb7.length) * (flg t x.ff + (p - 1) - 1) ≤ (2 + HX s.fq.fb4 x.fOp.fb7.length) * (flg s x.ff + p - 1) := Int.mul_le_mul_of_nonneg_left (by omega) (by omega)
  omega
 ·exact Int.le_refl _
def big (x : Qa) : Prop := x.fOp.fa4 = 7 ∨ x.fOp.fa4 = 8 ∨ x.fOp.fa4 = 15 ∨ x.fOp.fa4 = 17
theorem Bsy.big {s : Q2} {x : Qa} (h : big x) : Bsy s x := by
 unfold Go.Proofs.YtimfmcpbkdpmoaaGreat.big at h
 exact { i := fun e => by omega, o := fun e => by omega, m := fun e => by omega }
def pc (ss : List Qa) : Int := (ss.countP (·.fg3) : Int)
theorem Qki {ss : List Qa} {k : Nat} {x y : Qa} (h : ss[k]? = some x) : pc (ss.set k y) = pc ss - (if x.fg3 then 1 else 0) + (if y.fg3 then 1 else 0) := by
 unfold pc
 induction ss generalizing k with
 | nil => simp at h
 | cons a l ih =>
  cases k with
  | zero =>
   simp at h; subst h
   simp only [List.set_cons_zero, List.countP_cons]
   cases a.fg3 <;> cases y.fg3 <;> simp <;> omega
  | succ k =>
   simp only [List.getElem?_cons_succ] at h
   have := ih h
   simp only [List.set_cons_succ, List.countP_cons, Int.natCast_add]
   omega
theorem Qya {ss : List Qa} {k : Nat} {x : Qa} (h : ss[k]? = some x) (hb : x.fg3 = true) : 1 ≤ pc ss := by
 unfold pc
 have : 0 < ss.countP (·.fg3) := List.countP_pos_iff.2 ⟨x, List.mem_of_getElem? h, hb⟩
 omega
structure Q5d (s : Q2) (ss : List Qa) (i : Int) (most : List Int) : Prop where
 sv : Sv s
 b : ∀ (k : Nat) x, ss[k]? = some x → x.fg3 = true → Bsy s x ∧ ∃ m, most[k]? = some m ∧ (big x → 93 ≤ m + i) ∧ (¬ big x → rem s (pc ss) x ≤ m)
theorem Q5d.pos {s : Q2} {ss : List Qa} {i : Int} {most : List Int} (h : Q5d s ss i most) (hi : i < 93) {k : Nat} {x : Qa} {m : Int} (hx : ss[k]? = some x) (hb : x.fg3 = true) (hm : most[k]? = some m) : 1 ≤ m := by
 obtain ⟨_, m2, e, h1, h2⟩ := h.b k x hx hb
 rw [hm] at e; cases e
 by_cases c : big x
 ·have := h1 c; omega
 ·have := h2 c
  have := Qrw s (pc ss) x (Qya hx hb)
  omega
theorem Mi {α : Type} {l : List α} {k i : Nat} {a x : α} (h : (l.set k a)[i]? = some x) : (i = k ∧ x = a) ∨ (i ≠ k ∧ l[i]? = some x) := by
 rw [List.getElem?_set] at h
 split at h
 ·split at h
  ·left; cases h; exact ⟨by omega, rfl⟩
  ·cases h
 ·right; exact ⟨by omega, h⟩
theorem Q5d.on {s t : Q2} {ss : List Qa} {i : Int} {most : List Int} (h : Q5d s ss i most) {k : Nat} {x y : Qa} {m : Int} (hx : ss[k]? = some x) (hb : x.fg3 = true) (hm : most[k]? = some m) (kp : Kp s t) (sv : Sv t) (yb : y.fg3 = true) (yo : y.fOp = x.fOp) (hy : ¬ big x → Bsy t y ∧ rem t (pc ss) y + 1 ≤ rem s (pc ss) x) : Q5d t (ss.set k y) (i + 1) (most.set k (m - 1)) := by
 have pe : pc (ss.set k y) = pc ss := by rw [Qki hx, hb, yb]; simp
 have by_ : big y ↔ big x := by unfold big; rw [yo]
 refine { sv := sv, b := fun j z hz zb => ?_ }
 rw [pe]
 rcases Mi hz with ⟨rfl, rfl⟩ | ⟨hj, hz⟩
 ·obtain ⟨_, m2, e, h1, h2⟩ := h.b _ x hx hb
  rw [hm] at e; cases e
  have ml := (List.getElem?_eq_some_iff.1 hm).1
  by_cases c : big x
  ·exact ⟨Bsy.big (by_.2 c), m - 1, by simp [ml], fun _ => by have := h1 c; omega, fun q => absurd (by_.2 c) q⟩
  ·exact ⟨(hy c).1, m - 1, by simp [ml], fun q => absurd (by_.1 q) c, fun _ => by have := h2 c; have := (hy c).2; omega⟩
 ·obtain ⟨h0, m2, e, h1, h2⟩ := h.b j z hz zb
  exact ⟨h0.kp kp, m2, by rw [List.getElem?_set]; rw [if_neg (by omega)]; exact e, fun q => by have := h1 q; omega, fun q => by rw [Qy9 kp]; exact h2 q⟩
theorem Q5d.fin {s t : Q2} {ss : List Qa} {i : Int} {most : List Int} (h : Q5d s ss i most) {k : Nat} {x y : Qa} {m : Int} (hx : ss[k]? = some x) (hb : x.fg3 = true) (sv : Sv t) (g : t.fq = s.fq) (kc : Kp s t ∨ s.fa1 < t.fa1) (yb : y.fg3 = false) : Q5d t (ss.set k y) (i + 1) (most.set k (m - 1)) := by
 have pe : pc (ss.set k y) = pc ss - 1 := by rw [Qki hx, hb, yb]; simp
 refine { sv := sv, b := fun j z hz zb => ?_ }
 rw [pe]
 rcases Mi hz with ⟨rfl, rfl⟩ | ⟨hj, hz⟩
 ·rw [yb] at zb; cases zb
 ·obtain ⟨h0, m2, e, h1, h2⟩ := h.b j z hz zb
  exact ⟨kc.elim h0.kp (h0.lt g), m2, by rw [List.getElem?_set]; rw [if_neg (by omega)]; exact e, fun q => by have := h1 q; omega, fun q => Int.le_trans (Qrx g) (h2 q)⟩
theorem Bsy.z {s : Q2} {x : Qa} (h : x.ff.fd0 = 0) : Bsy s x := { i := fun _ => ⟨.inl h, fun e => absurd h e⟩, o := fun _ => .inl h, m := fun _ => .inl h }
structure Bi (s : Q2) (ss : List Qa) : Prop where
 sv : Sv s
 b : ∀ (k : Nat) x, ss[k]? = some x → x.fg3 = true → Bsy s x ∧ 1 ≤ x.fOp.fa4 ∧ x.fOp.fa4 ≤ 17
theorem Bi.call {s : Q2} {ss : List Qa} (h : Bi s ss) {k : Nat} {y : Qa} (hy : y.ff.fd0 = 0) (hk : 1 ≤ y.fOp.fa4 ∧ y.fOp.fa4 ≤ 17) : Bi s (ss.set k y) :=
  { sv := h.sv, b := fun j z hz zb => by
       rcases Mi hz with ⟨rfl, rfl⟩ | ⟨_, hz⟩
       · exact ⟨Bsy.z hy, hk⟩
       · exact h.b j z hz zb }
theorem Bi.on {s t : Q2} {ss : List Qa} (h : Bi s ss) {k : Nat} {x y : Qa} (hx : ss[k]? = some x) (hb : x.fg3 = true) (yo : y.fOp = x.fOp) (kp : Kp s t) (sv : Sv t) (hy : Bsy t y) : Bi t (ss.set k y) :=
  { sv := sv, b := fun j z hz zb => by
       rcases Mi hz with ⟨rfl, rfl⟩ | ⟨_, hz⟩
       · exact ⟨hy, by rw [yo]; exact (h.b _ x hx hb).2⟩
       · exact ⟨(h.b j z hz zb).1.kp kp, (h.b j z hz zb).2⟩ }
theorem Bi.fin {s t : Q2} {ss : List Qa} (h : Bi s ss) {k : Nat} {y : Qa} (sv : Sv t) (g : t.fq = s.fq) (kc : Kp s t ∨ s.fa1 < t.fa1) (yb : y.fg3 = false) : Bi t (ss.set k y) :=
  { sv := sv, b := fun j z hz zb => by
       rcases Mi hz with ⟨rfl, rfl⟩ | ⟨_, hz⟩
       · rw [yb] at zb; cases zb
       · exact ⟨kc.elim (h.b j z hz zb).1.kp ((h.b j z hz zb).1.lt g), (h.b j z hz zb).2⟩ }
theorem PF {n d : Int} (h0 : 0 ≤ n) (hd : 1 ≤ d) : (n + d - 1) / d = n / d + (if n % d > 0 then 1 else 0) := by
 have r0 := Int.emod_nonneg n (b := d) (by omega)
 have r1 := Int.emod_lt_of_pos n (b := d) (by omega)
 have e : n % d + n / d * d = n := by have := Int.emod_add_mul_ediv n d; rw [Int.mul_comm] at this; omega
 split
 ·have e2 : n + d - 1 = (n % d - 1) + (n / d + 1) * d := by rw [Int.add_mul, Int.one_mul]; omega
  rw [e2, Int.add_mul_ediv_right _ _ (by omega), Int.ediv_eq_zero_of_lt (by omega) (by omega)]; omega
 ·have e2 : n + d - 1 = (d - 1) + n / d * d := by omega
  rw [e2, Int.add_mul_ediv_right _ _ (by omega), Int.ediv_eq_zero_of_lt (by omega) (by omega)]; omega
theorem Qrz {c n : Int} (h0 : 0 ≤ n) (h1 : n ≤ 4611686018427387904) : Kt (clF (Kt n 0) (Kt c 1)) 1 = HX c n := by
 rw [YW, YW, YW, show max n 0 = n by omega]
 unfold HX
 congr 1
 have d1 : 1 ≤ max c 1 := by omega
 generalize max c 1 = d at *
 rw [PF h0 d1]
 unfold clF
 rw [if_neg (by omega), Int.tmod_eq_emod_of_nonneg h0, Int.tdiv_eq_ediv_of_nonneg h0]
 have q0 : 0 ≤ n / d := Int.ediv_nonneg h0 (by omega)
 have q1 : n / d ≤ n := Int.ediv_le_self _ h0
 rw [Zp (n := n / d) (by omega)]
 split
 ·rw [Zp (by omega)]
 ·omega
def sdS (a b m : Int) : Int := if max a 0 + max b 0 > max m 0 then max m 0 else max a 0 + max b 0
def smS (a b m : Int) : Int := if max a 0 * max b 0 > max m 0 then max m 0 else max a 0 * max b 0
theorem Q9p {a b : Int} (ha : 0 ≤ a) (hb : 0 ≤ b) (h : a + b ≤ 1099511627776) : sdS a b 1099511627776 = a + b := by
 unfold sdS; rw [if_neg (by omega)]; omega
theorem Qyb {a b : Int} (ha : 0 ≤ a) (hb : 0 ≤ b) (h : a * b ≤ 1099511627776) : smS a b 1099511627776 = a * b := by
 unfold smS
 rw [show max a 0 = a by omega, show max b 0 = b by omega, if_neg (by omega)]
theorem st6 {K p : Int} (hK : 1 ≤ K) (hK2 : K ≤ 4000000) (hp : 0 ≤ p) (hp2 : p ≤ 64) : smS (sdS p 1 1099511627776) (sdS 2 K 1099511627776) 1099511627776 = (2 + K) * (p + 1) := by
 rw [Q9p hp (by omega) (by omega), Q9p (by omega) (by omega) (by omega)]
 have h : (p + 1) * (2 + K) ≤ 65 * 4000002 := Int.mul_le_mul (by omega) (by omega) (by omega) (by omega)
 rw [Qyb (by omega) (by omega) (by omega), Int.mul_comm]
theorem Qs1 (x : Int) : E6 (IntKind.i64.wrap x) := by unfold E6; rw [IntKind.wrap_i64]; omega
theorem Qkj {a b : Int} (ha : E6 a) (hb : E6 b) : E6 (Kt a b) := by unfold Kt; split <;> assumption
theorem Qs2 : E6 1099511627776 := by unfold E6; decide
theorem Qs3 (a b : Int) : E6 (clF a b) := by
 unfold clF; split
 ·unfold E6; decide
 ·split <;> exact Qs1 _
def Sd (c n : Int) : Int := Kt (clF (Kt n 0) (Kt c 1)) 1
theorem E5 (c n : Int) : E6 (Sd c n) := Qkj (Qs3 _ _) (by unfold E6; decide)
theorem Qc5 {c n : Int} (h0 : 0 ≤ n) (h1 : n ≤ 4611686018427387904) : Sd c n = HX c n := Qrz h0 h1
theorem Q17 (c n : Int) (h : 0 ≤ n) : HX c n ≤ n + 1 := by
 unfold HX
 have d1 : 1 ≤ max c 1 := by omega
 generalize max c 1 = d at *
 rw [PF h d1]
 have := Int.ediv_le_self d h
 split <;> omega
def GF (c : Qo) (o : QF) (u t : Int) : Int :=
 if o.fa4 = 6 then OW (Gr t 1 1099511627776) (Gr 2 (Sd c.fb4 o.fb7.length) 1099511627776) 1099511627776
 else if o.fa4 = 7 then OW (Gr t 1 1099511627776) (Gr 2 (Sd c.fb4 u) 1099511627776) 1099511627776
 else if o.fa4 = 8 then Gr 2 (Sd c.fb4 u) 1099511627776
 else if o.fa4 = 9 then Gr 1 (Sd c.fb4 o.fb8.length) 1099511627776
 else if o.fa4 = 15 then Gr 1 (Sd c.fb4 u) 1099511627776
 else if o.fa4 = 16 then Gr 2 (Sd c.fb4 (pgF o.fd2.length c.fb3)) 1099511627776
 else if o.fa4 = 17 then Xd (Sd c.fb4 u) 1099511627776
 else if Q8c o.fa4 = true then 1 else 0
theorem ad_eq {a b : Int} (ha : 0 ≤ a) (hb : 0 ≤ b) (h : a + b ≤ 1099511627776) : Gr a b 1099511627776 = a + b := Q9p ha hb h
theorem Gp (a b : Int) : ∃ e, Rr (JM a b) (clF a b, e) := by
 by_cases h : a < 0 ∨ b < 1
 ·refine ⟨5, ?_⟩
  unfold Rr; rw [JM.eq_1]
  refine KL (fun _ => ?_) fun c => ?_
  ·unfold clF; rw [if_pos h]
  ·simp only [Co, Bool.or_eq_false_iff, decide_eq_false_iff_not] at c; omega
 ·refine ⟨0, ?_⟩
  unfold Rr; rw [JM.eq_1]
  refine KL (fun c => ?_) fun _ => XH ⟨by omega, Fo ⟨by omega, KL (fun c => ?_) fun c => ?_⟩⟩
  ·simp only [Co, Bool.or_eq_true, decide_eq_true_eq] at c; omega
  ·have c' : a.tmod b > 0 := by simpa using c
   unfold clF; rw [if_neg h, if_pos c']
  ·have c' : ¬ a.tmod b > 0 := by simpa using c
   unfold clF; rw [if_neg h, if_neg c']
theorem XZ (c : Qo) (n : Int) : Rr (Kc c n) (Sd c.fb4 n) := by
 unfold Rr; rw [Kc.eq_1]
 obtain ⟨e, h⟩ := Gp (Kt n 0) (Kt c.fb4 1)
 exact ⟨_, h, rfl⟩
theorem Se (n z : Int) : ∃ e, Rr (XE n z) (pgF n z, e) := by
 have s : Rr (YB z) (decide (z ≥ 1) && decide (z ≤ 1024)) := by
  unfold Rr; rw [YB.eq_1]
  cases decide (z ≥ 1) <;> rfl
 by_cases h : (n < 0 ∨ z < 1) ∨ z > 1024
 ·refine ⟨5, ?_⟩
  unfold Rr; rw [XE.eq_1]
  refine ⟨_, fun _ => s, KL (fun _ => ?_) fun c => ?_⟩
  ·unfold pgF; rw [if_pos h]
  ·simp at c; omega
 ·refine ⟨0, ?_⟩
  obtain ⟨e, k⟩ := Gp n z
  unfold Rr; rw [XE.eq_1]
  refine ⟨_, fun _ => s, KL (fun c => ?_) fun _ => XH ⟨_, k, ?_⟩⟩
  ·simp at c; omega
  ·unfold pgF; rw [if_neg h]
theorem Ue (a b : Int) (ha : E6 a) (hb : E6 b) : Rr (Jx a b) (Gr a b 1099511627776) := by
 unfold Rr; rw [Jx.eq_1]
 exact ⟨_, ⟨⟨ha, hb, Qs2⟩, rfl⟩, rfl⟩
theorem Gq (a b : Int) (ha : E6 a) (hb : E6 b) : Rr (Vz a b) (OW a b 1099511627776) := by
 unfold Rr; rw [Vz.eq_1]
 exact ⟨_, ⟨⟨ha, hb, Qs2⟩, rfl⟩, rfl⟩
theorem F7 (c : Qo) (o : QF) (u t : Int) (ht : E6 t) : Rr (V6 c o u t) (GF c o u t) := by
 unfold Rr; rw [V6.eq_1]
 have i1 : E6 1 := by unfold E6; decide
 have i2 : E6 2 := by unfold E6; decide
 have s1 := OX ht i1 Qs2
 have s2 := fun n => OX i2 (E5 c.fb4 n) Qs2
 refine ⟨_, Ue t 1 ht i1, KL (fun h6 => ?_) fun h6 => KL (fun h7 => ?_) fun h7 => KL (fun h8 => ?_) fun h8 => KL (fun h9 => ?_) fun h9 => KL (fun h15 => ?_) fun h15 => KL (fun h16 => ?_) fun h16 => KL (fun h17 => ?_) fun h17 => ?_⟩
 all_goals simp only [beq_iff_eq, beq_eq_false_iff_ne] at *
 ·refine ⟨_, XZ c _, _, Ue _ _ i2 (E5 _ _), _, Gq _ _ s1 (s2 _), ?_⟩
  unfold GF; rw [if_pos h6]
 ·refine ⟨_, XZ c _, _, Ue _ _ i2 (E5 _ _), _, Gq _ _ s1 (s2 _), ?_⟩
  unfold GF; rw [if_neg h6, if_pos h7]
 ·refine ⟨_, XZ c _, _, Ue _ _ i2 (E5 _ _), ?_⟩
  unfold GF; rw [if_neg h6, if_neg h7, if_pos h8]
 ·refine ⟨_, XZ c _, _, Ue _ _ i1 (E5 _ _), ?_⟩
  unfold GF; rw [if_neg h6, if_neg h7, if_neg h8, if_pos h9]
 ·refine ⟨_, XZ c _, _, Ue _ _ i1 (E5 _ _), ?_⟩
  unfold GF; rw [if_neg h6, if_neg h7, if_neg h8, if_neg h9, if_pos h15]
 ·obtain ⟨e, k⟩ := Se o.fd2.length c.fb3
  refine ⟨_, k, _, XZ c _, _, Ue _ _ i2 (E5 _ _), ?_⟩
  unfold GF; rw [if_neg h6, if_neg h7, if_neg h8, if_neg h9, if_neg h15, if_pos h16]
 ·refine ⟨_, XZ c _, ?_⟩
  unfold GF; rw [if_neg h6, if_neg h7, if_neg h8, if_neg h9, if_neg h15, if_neg h16, if_pos h17]
 ·refine ⟨Q8c o.fa4, by unfold Rr; rw [XX.eq_1], KL (fun hs => ?_) fun hs => ?_⟩ <;>
   (unfold GF; rw [if_neg h6, if_neg h7, if_neg h8, if_neg h9, if_neg h15, if_neg h16, if_neg h17, hs]; simp)
theorem PH (c : Qo) (u : Int) : Rr (YC c [] u) 0 := by
 unfold Rr; rw [YC.eq_1]
 refine Fo (XM (I := fun _ s => s = (0, 0)) ?_ (k := 0) rfl)
 rintro n _ rfl X hX
 refine KL (fun c => by simp at c) fun _ => Fo (XM (I := fun _ s => s = (0, 0)) ?_ (k := 0) rfl)
 rintro n _ rfl X hX
 exact KL (fun c => by simp at c) fun _ => rfl
theorem PI : Rr (V0 0) ⟨2, 2, 60, 8, 8, 100, 1⟩ := by
 unfold Rr; rw [V0.eq_1]
 exact ⟨60, ⟨by decide, by decide⟩, 8, ⟨by decide, by decide⟩, 8, ⟨by decide, by decide⟩, 100, ⟨by decide, by decide⟩, rfl⟩
theorem Sf : Rr YD true := by
 unfold Rr; rw [YD.eq_1]
 have e1 : ∀ o : QF, o.fa4 = 4 → GF ⟨2, 2, 60, 8, 8, 100, 1⟩ o 9 9 = 1 := fun o h => by
  unfold GF; rw [if_neg (by omega), if_neg (by omega), if_neg (by omega), if_neg (by omega), if_neg (by omega), if_neg (by omega), if_neg (by omega), if_pos (by rw [h]; decide)]
 have e2 : ∀ o : QF, o.fa4 = 6 → o.fb7.length = 1 → GF ⟨2, 2, 60, 8, 8, 100, 1⟩ o 0 0 = 3 := fun o h h1 => by
  unfold GF; rw [if_pos h, h1]; decide
 refine ⟨_, PI, 1, ?_, ⟨fun _ => XH ⟨3, ?_, ⟨fun _ => ⟨0, PH _ _, rfl⟩, fun h => by simp at h⟩⟩, fun h => by simp at h⟩⟩
 ·rw [← e1 _ (rfl : (QF.mk (4) (ByteArray.empty) (ByteArray.empty) ([] : (List ByteArray)) (Q9.mk (0) (0) (0) (0)) ([] : (List Zc)) ([] : (List Int)) (0) (0) (0) (0) (0) (0) (QQ.mk (0) (ByteArray.empty) (0) (0) (0)) ([] : (List Int))).fa4 = 4)]
  exact F7 _ _ _ _ (by unfold E6; decide)
 ·rw [← e2 _ (rfl : (QF.mk (6) ((⟨#[97]⟩ : ByteArray)) (ByteArray.empty) ([] : (List ByteArray)) (Q9.mk (0) (0) (0) (0)) ([(Zc.mk ((⟨#[97]⟩ : ByteArray)) (1))]) ([] : (List Int)) (0) (0) (0) (0) (0) (0) (QQ.mk (0) (ByteArray.empty) (0) (0) (0)) ([] : (List Int))).fa4 = 6) rfl]
  exact F7 _ _ _ _ (by unfold E6; decide)
end Go.Proofs.YtimfmcpbkdpmoaaGreat
