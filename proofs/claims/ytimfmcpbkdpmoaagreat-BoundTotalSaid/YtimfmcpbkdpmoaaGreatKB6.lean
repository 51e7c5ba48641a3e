/- Parts of the proof, laid together. No condition. -/
import Derived.Test.YtimfmcpbkdpmoaaGreatKB5
import Derived.Laws.Bits64
set_option linter.unusedVariables false
set_option linter.unusedSimpArgs false
namespace Go.Proofs.YtimfmcpbkdpmoaaGreat
open Go.RowKit Go.ChangeShapes Go.WideShapes
end Go.Proofs.YtimfmcpbkdpmoaaGreat
namespace Go.Proofs.YtimfmcpbkdpmoaaGreat
open Go.RowKit Go.ChangeShapes Go.WideShapes
theorem Bp {σ : Type} {step : (σ → Prop) → σ → Prop} (I : Nat → σ → Prop) (h : ∀ k s, I k s → ∀ X : σ → Prop, (∀ k' s', k' < k → I k' s' → X s') → step X s) {k : Nat} {s : σ} (h0 : I k s) : lp step s := by
 intro X hX
 have key : ∀ k s, I k s → X s := by
  intro k
  induction k using Nat.strongRecOn with
  | _ k ih => exact fun s hs => hX s (h k s hs X fun k' s' hk hs' => ih k' hk s' hs')
 exact key k s h0
theorem Za {n : Int} (h : -9223372036854775808 ≤ n ∧ n ≤ 9223372036854775807) : IntKind.i64.wrap n = n := by rw [IntKind.wrap_i64]; omega
theorem Q20 (n : Nat) : Int.toNat (n : Int) = n := by simp
end Go.Proofs.YtimfmcpbkdpmoaaGreat
namespace Go.Proofs.YtimfmcpbkdpmoaaGreat
open Go.RowKit Go.ChangeShapes Go.WideShapes
theorem Qlb (x : Int) (j : Nat) (hj : j ≤ 62) (m : Int) (hm : m = 2 ^ j - 1) : bits BinOp.and IntKind.i64 x m = x % 2 ^ j := by
 have hp : (2 : Nat) ^ j ≤ 2 ^ 62 := Nat.pow_le_pow_right (by omega) hj
 have hp1 : 1 ≤ (2 : Nat) ^ j := Nat.one_le_two_pow
 have e0 : (2 : Int) ^ j = ((2 ^ j : Nat) : Int) := by simp
 have e1 : m = ((2 ^ j - 1 : Nat) : Int) := by rw [hm, e0]; omega
 show IntKind.i64.wrap ((BitVec.ofInt 64 x &&& BitVec.ofInt 64 m).toNat : Int) = _
 rw [BitVec.toNat_and, e1, BitVec.ofInt_natCast, BitVec.toNat_ofNat, Nat.mod_eq_of_lt (a := 2 ^ j - 1) (by omega), Nat.and_two_pow_sub_one_eq_mod, BitVec.toNat_ofInt]
 have hd : ((2 ^ j : Nat) : Int) ∣ (2 ^ 64 : Nat) := by
  refine ⟨((2 ^ (64 - j) : Nat) : Int), ?_⟩
  rw [← Int.natCast_mul, ← Nat.pow_add, show j + (64 - j) = 64 from by omega]
 have h2 : ((x % ((2 ^ 64 : Nat) : Int)).toNat % 2 ^ j : Nat) = (x % (2 ^ j : Nat)).toNat := by
  have hx0 : 0 ≤ x % ((2 ^ 64 : Nat) : Int) := Int.emod_nonneg _ (by decide)
  have hx1 : 0 ≤ x % ((2 ^ j : Nat) : Int) := Int.emod_nonneg _ (by omega)
  apply Int.ofNat.inj
  show (((x % ((2 ^ 64 : Nat) : Int)).toNat % 2 ^ j : Nat) : Int) = (((x % (2 ^ j : Nat)).toNat : Nat) : Int)
  rw [Int.natCast_emod, Int.toNat_of_nonneg hx0, Int.toNat_of_nonneg hx1, Int.emod_emod_of_dvd _ hd]
 rw [h2, Int.toNat_of_nonneg (Int.emod_nonneg _ (by omega)), e0, IntKind.wrap_i64]
 have hb0 : 0 ≤ x % ((2 ^ j : Nat) : Int) := Int.emod_nonneg _ (by omega)
 have hb1 : x % ((2 ^ j : Nat) : Int) < ((2 ^ j : Nat) : Int) := Int.emod_lt_of_pos _ (by omega)
 omega
theorem bA (x : Int) (j : Nat) (hj : j ≤ 62) (m : Int) (hm : m = 2 ^ j - 1) : QG .i64 x m = x % 2 ^ j := Qlb x j hj m hm
theorem bA1 (x : Int) : QG .i64 x 1 = x % 2 := bA x 1 (by decide) 1 (by decide)
theorem bA3 (x : Int) : QG .i64 x 3 = x % 4 := bA x 2 (by decide) 3 (by decide)
theorem bA7 (x : Int) : QG .i64 x 7 = x % 8 := bA x 3 (by decide) 7 (by decide)
theorem Qlc (x : Int) : QG .i64 x 15 = x % 16 := bA x 4 (by decide) 15 (by decide)
theorem Qld (x : Int) : QG .i64 x 31 = x % 32 := bA x 5 (by decide) 31 (by decide)
theorem Qth (x : Int) : QG .i64 x 63 = x % 64 := bA x 6 (by decide) 63 (by decide)
theorem Q6m (x : Int) : QG .i64 x 255 = x % 256 := bA x 8 (by decide) 255 (by decide)
theorem Pg (x : Int) : QG .i64 x 65535 = x % 65536 := bA x 16 (by decide) 65535 (by decide)
theorem C1 (x : Int) : QG .i64 x 16777215 = x % 16777216 := bA x 24 (by decide) 16777215 (by decide)
theorem PU {a b : Int} (ha : 0 ≤ a) : a.tmod b = a % b := Int.tmod_eq_emod_of_nonneg ha
theorem Zp {α : Type} {l : List α} {n : Int} (h0 : 0 ≤ n) (h1 : n < l.length) : ∃ x, ix l n x ∧ l[n.toNat]? = some x := by
 have : n.toNat < l.length := by omega
 exact ⟨l[n.toNat], ⟨h0, by simp [this]⟩, by simp [this]⟩
theorem Qle {n : Int} (h : 0 ≤ n ∧ n ≤ 18446744073709551615) : IntKind.u64.wrap n = n := by rw [IntKind.wrap_u64]; omega
theorem shr8 (x : Int) : QD .i64 x 8 = x / 256 := by
 show x.fdiv (2 ^ 8) = x / 256
 rw [Int.fdiv_eq_ediv_of_nonneg x (by decide)]; rfl
theorem G2 (x : Int) : 0 ≤ IntKind.u64.wrap x ∧ IntKind.u64.wrap x ≤ 18446744073709551615 := by rw [IntKind.wrap_u64]; omega
theorem ND {d s : Int} (h1 : 1 ≤ d ∧ d ≤ 8) (h2 : 1 ≤ s ∧ s ≤ 64) : 1 ≤ d * s ∧ d * s ≤ 512 := by
 have h : d = 1 ∨ d = 2 ∨ d = 3 ∨ d = 4 ∨ d = 5 ∨ d = 6 ∨ d = 7 ∨ d = 8 := by omega
 rcases h with rfl | rfl | rfl | rfl | rfl | rfl | rfl | rfl <;> omega
theorem PW {p : Int} (h : 2 ≤ p ∧ p ≤ 8) : 4 ≤ Y7 .i64 1 (IntKind.u64.wrap p) ∧ Y7 .i64 1 (IntKind.u64.wrap p) ≤ 256 := by
 have h : p = 2 ∨ p = 3 ∨ p = 4 ∨ p = 5 ∨ p = 6 ∨ p = 7 ∨ p = 8 := by omega
 rcases h with rfl | rfl | rfl | rfl | rfl | rfl | rfl <;> decide
theorem Qxl {p v : Int} (hp : 2 ≤ p ∧ p ≤ 8) (h0 : 0 ≤ v) (h1 : v ≤ 18446744073709551615) : 0 ≤ QD .u64 v (IntKind.u64.wrap (IntKind.i64.wrap (64 - p))) ∧ QD .u64 v (IntKind.u64.wrap (IntKind.i64.wrap (64 - p))) < Y7 .i64 1 (IntKind.u64.wrap p) := by
 have h : p = 2 ∨ p = 3 ∨ p = 4 ∨ p = 5 ∨ p = 6 ∨ p = 7 ∨ p = 8 := by omega
 have hd : ∀ m : Int, 0 < m → v.fdiv m = v / m := fun m hm => Int.fdiv_eq_ediv_of_nonneg v (by omega)
 rcases h with rfl | rfl | rfl | rfl | rfl | rfl | rfl
 ·have e1 : IntKind.u64.wrap (IntKind.i64.wrap (64 - 2)) = 62 := by decide
  have e2 : Y7 .i64 1 (IntKind.u64.wrap 2) = 4 := by decide
  rw [e1, e2]; show 0 ≤ v.fdiv 4611686018427387904 ∧ v.fdiv 4611686018427387904 < 4; rw [hd _ (by decide)]; omega
 ·have e1 : IntKind.u64.wrap (IntKind.i64.wrap (64 - 3)) = 61 := by decide
  have e2 : Y7 .i64 1 (IntKind.u64.wrap 3) = 8 := by decide
  rw [e1, e2]; show 0 ≤ v.fdiv 2305843009213693952 ∧ v.fdiv 2305843009213693952 < 8; rw [hd _ (by decide)]; omega
 ·have e1 : IntKind.u64.wrap (IntKind.i64.wrap (64 - 4)) = 60 := by decide
  have e2 : Y7 .i64 1 (IntKind.u64.wrap 4) = 16 := by decide
  rw [e1, e2]; show 0 ≤ v.fdiv 1152921504606846976 ∧ v.fdiv 1152921504606846976 < 16; rw [hd _ (by decide)]; omega
 ·have e1 : IntKind.u64.wrap (IntKind.i64.wrap (64 - 5)) = 59 := by decide
  have e2 : Y7 .i64 1 (IntKind.u64.wrap 5) = 32 := by decide
  rw [e1, e2]; show 0 ≤ v.fdiv 576460752303423488 ∧ v.fdiv 576460752303423488 < 32; rw [hd _ (by decide)]; omega
 ·have e1 : IntKind.u64.wrap (IntKind.i64.wrap (64 - 6)) = 58 := by decide
  have e2 : Y7 .i64 1 (IntKind.u64.wrap 6) = 64 := by decide
  rw [e1, e2]; show 0 ≤ v.fdiv 288230376151711744 ∧ v.fdiv 288230376151711744 < 64; rw [hd _ (by decide)]; omega
 ·have e1 : IntKind.u64.wrap (IntKind.i64.wrap (64 - 7)) = 57 := by decide
  have e2 : Y7 .i64 1 (IntKind.u64.wrap 7) = 128 := by decide
  rw [e1, e2]; show 0 ≤ v.fdiv 144115188075855872 ∧ v.fdiv 144115188075855872 < 128; rw [hd _ (by decide)]; omega
 ·have e1 : IntKind.u64.wrap (IntKind.i64.wrap (64 - 8)) = 56 := by decide
  have e2 : Y7 .i64 1 (IntKind.u64.wrap 8) = 256 := by decide
  rw [e1, e2]; show 0 ≤ v.fdiv 72057594037927936 ∧ v.fdiv 72057594037927936 < 256; rw [hd _ (by decide)]; omega
theorem sh0 {p : Int} (h : 2 ≤ p ∧ p ≤ 8) : 0 ≤ Y7 .i64 1 (IntKind.u64.wrap p) := by have := PW h; omega
theorem sh1 {p : Int} (h : 2 ≤ p ∧ p ≤ 8) : 0 < Y7 .i64 1 (IntKind.u64.wrap p) := by have := PW h; omega
theorem sh2 {p : Int} (h : 2 ≤ p ∧ p ≤ 8) : Y7 .i64 1 (IntKind.u64.wrap p) * ((8 : Nat) : Int) ≤ 140737488355328 := by have := PW h; omega
theorem sh3 {p : Int} {α : Type} {x : α} (h : 2 ≤ p ∧ p ≤ 8) : (List.replicate (Y7 .i64 1 (IntKind.u64.wrap p)).toNat x).length ≤ 2000000 := by have := PW h; rw [List.length_replicate]; omega
theorem sh4 {p : Int} {n : Nat} (e : (n : Int) = Y7 .i64 1 (IntKind.u64.wrap p)) (h : 2 ≤ p ∧ p ≤ 8) : n ≤ 256 := by have := PW h; omega
theorem sr0 {p v : Int} (hp : 2 ≤ p ∧ p ≤ 8) (h : 0 ≤ v ∧ v ≤ 18446744073709551615) : 0 ≤ IntKind.i64.wrap (QD .u64 v (IntKind.u64.wrap (IntKind.i64.wrap (64 - p)))) := by
 have := PW hp; have := Qxl hp h.1 h.2; rw [Za (by omega)]; omega
theorem sr1 {p v : Int} (hp : 2 ≤ p ∧ p ≤ 8) (h : 0 ≤ v ∧ v ≤ 18446744073709551615) : IntKind.i64.wrap (QD .u64 v (IntKind.u64.wrap (IntKind.i64.wrap (64 - p)))) < Y7 .i64 1 (IntKind.u64.wrap p) := by
 have := PW hp; have := Qxl hp h.1 h.2; rw [Za (by omega)]; omega
theorem mu0 {a b : Int} (h1 : 1 ≤ a ∧ a ≤ 8) (h2 : 1 ≤ b ∧ b ≤ 64) : 0 ≤ IntKind.i64.wrap (a * b) := by have := ND h1 h2; rw [Za (by omega)]; omega
theorem mu2 {a b : Int} (h1 : 1 ≤ a ∧ a ≤ 8) (h2 : 1 ≤ b ∧ b ≤ 64) : IntKind.i64.wrap (a * b) * ((8 : Nat) : Int) ≤ 140737488355328 := by have := ND h1 h2; rw [Za (by omega)]; omega
theorem mu3 {a b : Int} {α : Type} {x : α} (h1 : 1 ≤ a ∧ a ≤ 8) (h2 : 1 ≤ b ∧ b ≤ 64) : (List.replicate (IntKind.i64.wrap (a * b)).toNat x).length ≤ 2000000 := by have := ND h1 h2; rw [Za (by omega), List.length_replicate]; omega
theorem mu4 {a b l : Int} (e : l = IntKind.i64.wrap (a * b)) (h1 : 1 ≤ a ∧ a ≤ 8) (h2 : 1 ≤ b ∧ b ≤ 64) : l = a * b := by have := ND h1 h2; rw [Za (by omega)] at e; exact e
theorem mu5 {a b : Int} {l : Nat} (e : (l : Int) = IntKind.i64.wrap (a * b)) (h1 : 1 ≤ a ∧ a ≤ 8) (h2 : 1 ≤ b ∧ b ≤ 64) : l ≤ 512 := by have := ND h1 h2; rw [Za (by omega)] at e; omega
theorem ce_ {d s i v l : Int} (e : l = d * s) (h1 : 1 ≤ d ∧ d ≤ 8) (h2 : 1 ≤ s ∧ s ≤ 64) (hi : 0 ≤ i ∧ i < d) (hv : 0 ≤ v ∧ v < s) : 0 ≤ IntKind.i64.wrap (IntKind.i64.wrap (i * s) + v) ∧ IntKind.i64.wrap (IntKind.i64.wrap (i * s) + v) < l := by
 have hm := ND h1 h2
 have p1 : 0 ≤ i * s := Int.mul_nonneg hi.1 (by omega)
 have p2 : (i + 1) * s ≤ d * s := Int.mul_le_mul_of_nonneg_right (by omega) (by omega)
 rw [Int.add_mul, Int.one_mul] at p2
 rw [Za (n := i * s) (by omega), Za (by omega)]
 omega
theorem ce0 {d s i v l : Int} (e : l = d * s) (h1 : 1 ≤ d ∧ d ≤ 8) (h2 : 1 ≤ s ∧ s ≤ 64) (hi : 0 ≤ i ∧ i < d) (hv : 0 ≤ v ∧ v < s) : 0 ≤ IntKind.i64.wrap (IntKind.i64.wrap (i * s) + v) := (ce_ e h1 h2 hi hv).1
theorem ce1 {d s i v l : Int} (e : l = d * s) (h1 : 1 ≤ d ∧ d ≤ 8) (h2 : 1 ≤ s ∧ s ≤ 64) (hi : 0 ≤ i ∧ i < d) (hv : 0 ≤ v ∧ v < s) : IntKind.i64.wrap (IntKind.i64.wrap (i * s) + v) < l := (ce_ e h1 h2 hi hv).2
theorem co_ {v c : Int} (h : 0 ≤ v) (hc : 1 ≤ c ∧ c ≤ 64) : 0 ≤ IntKind.i64.wrap (v.tmod (IntKind.u64.wrap c)) ∧ IntKind.i64.wrap (v.tmod (IntKind.u64.wrap c)) < c := by
 rw [Qle (n := c) (by omega), PU h]
 have m0 := Int.emod_nonneg v (b := c) (by omega)
 have m1 := Int.emod_lt_of_pos v (b := c) (by omega)
 rw [Za (by omega)]
 exact ⟨m0, m1⟩
theorem co0 {v c : Int} (h : 0 ≤ v) (hc : 1 ≤ c ∧ c ≤ 64) : 0 ≤ IntKind.i64.wrap (v.tmod (IntKind.u64.wrap c)) := (co_ h hc).1
theorem co1 {v c : Int} (h : 0 ≤ v) (hc : 1 ≤ c ∧ c ≤ 64) : IntKind.i64.wrap (v.tmod (IntKind.u64.wrap c)) < c := (co_ h hc).2
theorem w8b {x : Int} : IntKind.u8.wrap x ≤ 255 := by simp [IntKind.wrap, IntKind.bits, IntKind.signed]; omega
theorem w8a {x : Int} : 0 ≤ IntKind.u8.wrap x := by simp [IntKind.wrap, IntKind.bits, IntKind.signed]; omega
theorem w8c {x : Int} : 0 ≤ IntKind.u8.wrap x ∧ IntKind.u8.wrap x ≤ 255 := ⟨w8a, w8b⟩
theorem sI_b {s : ByteArray} : ∀ x ∈ sI s, 0 ≤ x ∧ x ≤ 255 := by
 intro x hx
 simp only [sI, List.mem_map] at hx
 obtain ⟨y, _, rfl⟩ := hx
 have := y.toNat_lt; omega
theorem mu6 {a b : Int} (h1 : 0 ≤ a ∧ a ≤ 8) (h2 : 0 ≤ b ∧ b ≤ 64) : IntKind.i64.wrap (a * b) ≤ 512 := by
 have h : a = 0 ∨ a = 1 ∨ a = 2 ∨ a = 3 ∨ a = 4 ∨ a = 5 ∨ a = 6 ∨ a = 7 ∨ a = 8 := by omega
 rcases h with rfl | rfl | rfl | rfl | rfl | rfl | rfl | rfl | rfl <;> rw [Za (by omega)] <;> omega
theorem bo0 {a b : Int} : 0 ≤ bOr .u64 a b := (G2 _).1
theorem sz1 {l : List Int} {n : Nat} (h : l.length ≤ n) : (strOfNums l).size ≤ n := by simpa [strOfNums, ByteArray.size] using h
theorem sz0 : (⟨#[]⟩ : ByteArray).size ≤ 2000000 := by decide
theorem sh6 {p : Int} (h : 0 ≤ p ∧ p ≤ 8) : Y7 .i64 1 (IntKind.u64.wrap p) ≤ 512 := by
 have h : p = 0 ∨ p = 1 ∨ p = 2 ∨ p = 3 ∨ p = 4 ∨ p = 5 ∨ p = 6 ∨ p = 7 ∨ p = 8 := by omega
 rcases h with rfl | rfl | rfl | rfl | rfl | rfl | rfl | rfl | rfl <;> decide
theorem xr0 {a b : Int} : 0 ≤ Oq .u64 a b := (G2 _).1
theorem xr1 {a b : Int} : Oq .u64 a b ≤ 18446744073709551615 := (G2 _).2
theorem tm0 {a n : Int} (h : 0 ≤ a) : 0 ≤ a.tmod n := by rw [PU h]; by_cases hn : n = 0; simp [hn, h]; exact Int.emod_nonneg _ hn
theorem tm1 {a n : Int} (h : 0 ≤ a) (hn : 0 < n) : a.tmod n < n := by rw [PU h]; exact Int.emod_lt_of_pos _ hn
theorem tm2 {a n : Int} (h : 0 ≤ a) (hn : 0 < n) : a.tmod n ≤ n := Int.le_of_lt (tm1 h hn)
theorem G3 {α : Type} {l : List α} {j : Nat} (h : j < l.length) : ix l (j : Int) l[j] := ⟨by omega, by simp [h]⟩
theorem sn0 {x j : Int} (h : 0 ≤ x) : 0 ≤ QD .i64 x j := Int.fdiv_nonneg h (Int.pow_nonneg (by decide))
theorem pig (l : List Int) (m : Nat) (h : ∀ k : Nat, k < m → ((k : Int) + 1) ∈ l) : m ≤ l.length := by
 induction m generalizing l with
 | zero => omega
 | succ m ih =>
  have hm := h m (by omega)
  have e := List.length_erase_of_mem hm
  have p := List.length_pos_of_mem hm
  have := ih (l.erase ((m : Int) + 1)) fun k hk => (List.mem_erase_of_ne (by omega)).2 (h k (by omega))
  omega
theorem Z0q {X c : Int} (h0 : 0 ≤ X) (h1 : X < 72057594037927936) (c0 : 0 ≤ c) (c1 : c ≤ 255) : bOr .u64 (Y7 .u64 X 8) (IntKind.u64.wrap c) = X * 256 + c := by
 rw [show Y7 .u64 X 8 = IntKind.u64.wrap (X * 256) from rfl, Qle (by omega), Qle (by omega)]
 exact bits_join .u64 64 (by decide) (fun n a b => by rw [IntKind.wrap_u64]; omega) 8 (X * 256) c (by omega) (by omega) (by omega) c0 (by omega) (by omega)
theorem p256 {k : Nat} (h : k ≤ 7) : (256 : Int) ^ k ≤ 72057594037927936 := by
 match k, h with
 | 0, _ => decide
 | 1, _ => decide
 | 2, _ => decide
 | 3, _ => decide
 | 4, _ => decide
 | 5, _ => decide
 | 6, _ => decide
 | 7, _ => decide
class Nx {R : Type} (W : (R → Prop) → Prop) (Pre : outParam Prop) (Post : outParam (R → Prop)) : Prop where
 go : Pre → ∃ r, Rr W r ∧ Post r
theorem K2 {R : Type} {W : (R → Prop) → Prop} {Pre : Prop} {Post : R → Prop} [g : Nx W Pre Post] {K : R → Prop} (h : Pre) (k : ∀ v, Rr W v → Post v → K v) : ∃ v, Rr W v ∧ K v := let ⟨v, h1, h2⟩ := g.go h; ⟨v, h1, k v h1 h2⟩
theorem nxg {R : Type} [Inhabited R] {W : (R → Prop) → Prop} {Pre : Prop} {Post : R → Prop} [g : Nx W Pre Post] {c : Prop} {K : R → Prop} (h : c → Pre) (k : ∀ v, (c → Rr W v) → (c → Post v) → K v) : ∃ v, (c → Rr W v) ∧ K v := by
 by_cases hc : c
 ·obtain ⟨v, h1, h2⟩ := g.go (h hc); exact ⟨v, fun _ => h1, k v (fun _ => h1) fun _ => h2⟩
 ·exact ⟨default, fun h => absurd h hc, k _ (fun h => absurd h hc) fun h => absurd h hc⟩
theorem II {a b : Bool} : (bif a then b else false) = (a && b) := by cases a <;> rfl
theorem CJ {a b : Bool} : (bif a then true else b) = (a || b) := by cases a <;> rfl
theorem Z5 {c : Bool} {A B : Prop} (h1 : c = true → A) (h2 : c = false → B) : ct c A B := ⟨h1, h2⟩
theorem joi {α : Type} {S : α → St → Option St} {k : α → Prop} {m : (α → Prop) → Prop} (h : m k) : jo S k m := h
theorem AR {α : Type} {S : α → St → Option St} {k : α → Prop} {m : (α → Prop) → Prop} (P : α → Prop) (h1 : ∀ p, P p → k p) (h2 : ∀ J : α → Prop, (∀ p, P p → J p) → m J) : jo S k m := h2 k h1
theorem U0 {α : Sort _} {x : α} {K : Prop} (h : K) : Qh x K := h
theorem Oe {A B K : Prop} (h : A → B → K) : A ∧ B → K := fun x => h x.1 x.2
def Jp {σ : Type} (X : σ → Prop) : σ → Prop := X
theorem idJ {σ : Type} {X : σ → Prop} {s : σ} (h : Jp X s) : Jp X s := h
theorem lvi {σ : Type} {I : σ → Prop} {m : σ → Nat} {S : σ → St → Option St} {step : (σ → Prop) → σ → Prop} {s : σ} (h0 : I s) (h : ∀ s, I s → ∀ X : σ → Prop, (∀ s', I s' → m s' < m s → Jp X s') → step (Jp X) s) : lv I m S step s :=
 Bp (I := fun k s => I s ∧ k = m s) (fun k s ⟨hi, hk⟩ X hX => h s hi X fun s' hi' hm => hX (m s') s' (by rw [hk]; exact hm) ⟨hi', rfl⟩) ⟨h0, rfl⟩
theorem ixi {α : Type} {L : List α} {n : Int} {K : α → Prop} (h : 0 ≤ n ∧ n < (L.length : Int)) (k : ∀ v, 0 ≤ n → L[n.toNat]? = some v → v ∈ L → K v) : ∃ v, ix L n v ∧ K v := by
 have h2 : n.toNat < L.length := by omega
 exact ⟨L[n.toNat], ⟨h.1, by simp [h2]⟩, k _ h.1 (by simp [h2]) (List.getElem_mem h2)⟩
theorem ixq {α : Type} {P : α → Prop} {L : List α} {n : Int} {K : α → Prop} (hP : ∀ x ∈ L, P x) (h : 0 ≤ n ∧ n < (L.length : Int)) (k : ∀ v, 0 ≤ n → L[n.toNat]? = some v → v ∈ L → P v → K v) : ∃ v, ix L n v ∧ K v := ixi h fun v h0 h1 h2 => k v h0 h1 h2 (hP v h2)
theorem ixg {α : Type} [Inhabited α] {L : List α} {n : Int} {c : Prop} {K : α → Prop} (h : c → 0 ≤ n ∧ n < (L.length : Int)) (k : ∀ v, (c → ix L n v) → (c → v ∈ L) → K v) : ∃ v, (c → ix L n v) ∧ K v := by
 by_cases hc : c
 ·obtain ⟨v, h1, h2⟩ := ixi (K := fun v => v ∈ L) (h hc) fun v _ _ h => h
  exact ⟨v, fun _ => h1, k v (fun _ => h1) fun _ => h2⟩
 ·exact ⟨default, fun h => absurd h hc, k _ (fun h => absurd h hc) fun h => absurd h hc⟩
theorem bxi {s : ByteArray} {n : Int} {K : Int → Prop} (h : 0 ≤ n ∧ n < (s.size : Int)) (k : ∀ v, bx s n v → 0 ≤ v → v ≤ 255 → K v) : ∃ v, bx s n v ∧ K v := by
 have h2 : n.toNat < s.size := by omega
 have h3 : (s[n.toNat].toNat : Int) ≤ 255 := by have := s[n.toNat].toNat_lt; omega
 exact ⟨s[n.toNat].toNat, ⟨h.1, s[n.toNat], by simp [h2], rfl⟩, k _ ⟨h.1, s[n.toNat], by simp [h2], rfl⟩ (by omega) h3⟩
theorem bxg {s : ByteArray} {n : Int} {c : Prop} {K : Int → Prop} (h : c → 0 ≤ n ∧ n < (s.size : Int)) (k : ∀ v, (c → bx s n v) → (c → 0 ≤ v ∧ v ≤ 255) → K v) : ∃ v, (c → bx s n v) ∧ K v := by
 by_cases hc : c
 ·obtain ⟨v, h1, h2⟩ := bxi (K := fun v => 0 ≤ v ∧ v ≤ 255) (h hc) fun v _ h1 h2 => ⟨h1, h2⟩
  exact ⟨v, fun _ => h1, k v (fun _ => h1) fun _ => h2⟩
 ·exact ⟨0, fun h => absurd h hc, k _ (fun h => absurd h hc) fun h => absurd h hc⟩
theorem Qlg {α : Type} {x : α} {n : Nat} {l : List α} (h : x ∈ List.take n l) : x ∈ l := List.mem_of_mem_take h
theorem Qlh {α : Type} {x : α} {n : Nat} {l : List α} (h : x ∈ List.drop n l) : x ∈ l := List.mem_of_mem_drop h
theorem ZS {α : Type} {P : α → Prop} {a b : List α} (h1 : ∀ x ∈ a, P x) (h2 : ∀ x ∈ b, P x) : ∀ x ∈ a ++ b, P x := fun x h => (List.mem_append.1 h).elim (h1 x) (h2 x)
theorem JC {α : Type} {P : α → Prop} {a : α} (h : P a) : ∀ x ∈ [a], P x := fun x hx => by rw [List.mem_singleton.1 hx]; exact h
theorem MN {α : Type} {P : α → Prop} {a : α} {l : List α} (h : P a) (k : ∀ x ∈ l, P x) : ∀ x ∈ a :: l, P x := fun x hx => (List.mem_cons.1 hx).elim (fun e => e ▸ h) (k x)
theorem ZT {α : Type} {P : α → Prop} : ∀ x ∈ ([] : List α), P x := fun x hx => absurd hx (by simp)
theorem PX {α : Type} {P : α → Prop} {n : Nat} {l : List α} (h : ∀ x ∈ l, P x) : ∀ x ∈ List.take n l, P x := fun x hx => h x (Qlg hx)
theorem Og {α : Type} {P : α → Prop} {n : Nat} {l : List α} (h : ∀ x ∈ l, P x) : ∀ x ∈ List.drop n l, P x := fun x hx => h x (Qlh hx)
theorem XS {α : Type} {P : α → Prop} {n : Nat} {l : List α} {a : α} (h : ∀ x ∈ l, P x) (ha : P a) : ∀ x ∈ List.set l n a, P x := fun x hx => (List.mem_or_eq_of_mem_set hx).elim (h x) fun e => e ▸ ha
theorem Qli {α : Type} {P : α → Prop} {a b : List α} (h : ∀ x ∈ b, P x) (hs : ∀ x ∈ a, x ∈ b) : ∀ x ∈ a, P x := fun x hx => h x (hs x hx)
theorem Qlj {α : Type} {P : α → Prop} {n : Nat} {a : α} (h : P a) : ∀ x ∈ List.replicate n a, P x := fun x hx => by rw [List.eq_of_mem_replicate hx]; exact h
theorem Qxq {α : Type} {P : α → Prop} {n : Nat} {l : List α} {a b : α} (h : ∀ x ∈ List.set l n b, P x) : ∀ x ∈ List.set (List.set l n a) n b, P x := by rw [List.set_set]; exact h
theorem ixs {α : Type} {L : List α} {n : Int} {v0 : α} {K : α → Prop} (h1 : L[n.toNat]? = some v0) (h0 : 0 ≤ n) (k : K v0) : ∃ v, ix L n v ∧ K v := ⟨v0, ⟨h0, h1⟩, k⟩
theorem ixt {α : Type} {L : List α} {n : Int} {c : Prop} {v0 : α} {K : α → Prop} (h1 : L[n.toNat]? = some v0) (h0 : 0 ≤ n) (k : K v0) : ∃ v, (c → ix L n v) ∧ K v := ⟨v0, fun _ => ⟨h0, h1⟩, k⟩
theorem Qxr {α : Type} {P : α → Prop} {l : List α} : ∀ x ∈ List.take (Int.toNat 0) l, P x := fun x h => absurd h (by simp)
theorem Qxs {α : Type} {P : α → Prop} {l : List α} {n m : Int} {v : α} (h : ∀ x ∈ List.take n.toNat l, P x) (hv : l[n.toNat]? = some v) (h0 : 0 ≤ n) (hp : P v) (hm : m = n + 1) : ∀ x ∈ List.take m.toNat l, P x := by
 have e : m.toNat = n.toNat + 1 := by omega
 rw [e, List.take_add_one, hv]
 intro x hx
 rcases List.mem_append.1 hx with hx | hx
 ·exact h x hx
 ·simp at hx; subst hx; exact hp
theorem Qxt {α : Type} {P : α → Prop} {l : List α} {n : Int} (h : ∀ x ∈ List.take n.toNat l, P x) (hn : (l.length : Int) ≤ n) : ∀ x ∈ l, P x := by
 rw [List.take_of_length_le (by omega)] at h; exact h
theorem fwm {α : Type} {P : α → Prop} {L : List α} {x : α} {K : Prop} (hP : ∀ y ∈ L, P y) (h : x ∈ L) (k : P x → K) : K := k (hP x h)
theorem Qlk (s : ByteArray) : (sI s).length = s.size := by simp [sI]
theorem IE (a b : Int) : JD a b = min a b := by unfold JD; split <;> omega
theorem U1 (a b : Int) : KF a b = max a b := by unfold KF; split <;> omega
theorem fwd {p q K : Prop} (f : p → q) (h : p) (k : q → K) : K := k (f h)
theorem Qdq {α : Type} {l : List α} : ∀ x ∈ l, x ∈ l := fun _ h => h
theorem xx_ {p : Prop} (h : p := by
  repeat (first | with_reducible refine Oe ?_ | (with_reducible intro h; first | subst h | (simp only [decide_eq_true_eq, decide_eq_false_iff_not, Bool.not_eq_eq_eq_not, Bool.not_true, Bool.not_false, II, CJ, Bool.and_eq_true, Bool.or_eq_true, Bool.or_eq_false_iff, Bool.and_eq_false_imp, beq_iff_eq, bne_iff_ne, beq_eq_false_iff_ne, bne_eq_false_iff_eq, Bool.true_eq_false, Bool.false_eq_true, reduceCtorEq, ix] at h) | skip))
  repeat' first
    | with_reducible assumption
    | (with_reducible refine Z5 (fun h => ?_) (fun h => ?_)
       all_goals first | (simp only [decide_eq_true_eq, decide_eq_false_iff_not, Bool.not_eq_eq_eq_not, Bool.not_true, Bool.not_false, II, CJ, Bool.and_eq_true, Bool.or_eq_true, Bool.or_eq_false_iff, Bool.and_eq_false_imp, beq_iff_eq, bne_iff_ne, beq_eq_false_iff_ne, bne_eq_false_iff_eq, Bool.true_eq_false, Bool.false_eq_true, reduceCtorEq, ix] at h) | skip
       all_goals first | (with_reducible refine fwd (by with_reducible assumption) h ?_; repeat (first | with_reducible refine Oe ?_ | (with_reducible intro h; first | subst h | (simp only [decide_eq_true_eq, decide_eq_false_iff_not, Bool.not_eq_eq_eq_not, Bool.not_true, Bool.not_false, II, CJ, Bool.and_eq_true, Bool.or_eq_true, Bool.or_eq_false_iff, Bool.and_eq_false_imp, beq_iff_eq, bne_iff_ne, beq_eq_false_iff_ne, bne_eq_false_iff_eq, Bool.true_eq_false, Bool.false_eq_true, reduceCtorEq, ix] at h) | skip))) | skip)
    | with_reducible refine U0 ?_
    | with_reducible refine joi ?_
    | (with_reducible apply lvi
       case' h => (repeat (first | with_reducible refine Oe ?_ | (with_reducible intro h; first | subst h | (simp only [decide_eq_true_eq, decide_eq_false_iff_not, Bool.not_eq_eq_eq_not, Bool.not_true, Bool.not_false, II, CJ, Bool.and_eq_true, Bool.or_eq_true, Bool.or_eq_false_iff, Bool.and_eq_false_imp, beq_iff_eq, bne_iff_ne, beq_eq_false_iff_ne, bne_eq_false_iff_eq, Bool.true_eq_false, Bool.false_eq_true, reduceCtorEq, ix] at h) | skip))))
    | (with_reducible apply K2
       case' k => (repeat (first | with_reducible refine Oe ?_ | (with_reducible intro h; first | subst h | (simp only [decide_eq_true_eq, decide_eq_false_iff_not, Bool.not_eq_eq_eq_not, Bool.not_true, Bool.not_false, II, CJ, Bool.and_eq_true, Bool.or_eq_true, Bool.or_eq_false_iff, Bool.and_eq_false_imp, beq_iff_eq, bne_iff_ne, beq_eq_false_iff_ne, bne_eq_false_iff_eq, Bool.true_eq_false, Bool.false_eq_true, reduceCtorEq, ix] at h) | skip))))
    | with_reducible refine ixs (by with_reducible assumption) (by with_reducible assumption) ?_
    | with_reducible refine ixt (by with_reducible assumption) (by with_reducible assumption) ?_
    | (with_reducible apply ixq (by with_reducible assumption)
       case' k => (repeat (first | with_reducible refine Oe ?_ | (with_reducible intro h; first | subst h | (simp only [decide_eq_true_eq, decide_eq_false_iff_not, Bool.not_eq_eq_eq_not, Bool.not_true, Bool.not_false, II, CJ, Bool.and_eq_true, Bool.or_eq_true, Bool.or_eq_false_iff, Bool.and_eq_false_imp, beq_iff_eq, bne_iff_ne, beq_eq_false_iff_ne, bne_eq_false_iff_eq, Bool.true_eq_false, Bool.false_eq_true, reduceCtorEq, ix] at h) | skip))))
    | (with_reducible apply ixi
       case' k => (repeat (first | with_reducible refine Oe ?_ | (with_reducible intro h; first | subst h | (simp only [decide_eq_true_eq, decide_eq_false_iff_not, Bool.not_eq_eq_eq_not, Bool.not_true, Bool.not_false, II, CJ, Bool.and_eq_true, Bool.or_eq_true, Bool.or_eq_false_iff, Bool.and_eq_false_imp, beq_iff_eq, bne_iff_ne, beq_eq_false_iff_ne, bne_eq_false_iff_eq, Bool.true_eq_false, Bool.false_eq_true, reduceCtorEq, ix] at h) | skip))))
    | (with_reducible apply bxi
       case' k => (repeat (first | with_reducible refine Oe ?_ | (with_reducible intro h; first | subst h | (simp only [decide_eq_true_eq, decide_eq_false_iff_not, Bool.not_eq_eq_eq_not, Bool.not_true, Bool.not_false, II, CJ, Bool.and_eq_true, Bool.or_eq_true, Bool.or_eq_false_iff, Bool.and_eq_false_imp, beq_iff_eq, bne_iff_ne, beq_eq_false_iff_ne, bne_eq_false_iff_eq, Bool.true_eq_false, Bool.false_eq_true, reduceCtorEq, ix] at h) | skip))))
    | (with_reducible apply nxg
       case' k => (repeat (first | with_reducible refine Oe ?_ | (with_reducible intro h; first | subst h | (simp only [decide_eq_true_eq, decide_eq_false_iff_not, Bool.not_eq_eq_eq_not, Bool.not_true, Bool.not_false, II, CJ, Bool.and_eq_true, Bool.or_eq_true, Bool.or_eq_false_iff, Bool.and_eq_false_imp, beq_iff_eq, bne_iff_ne, beq_eq_false_iff_ne, bne_eq_false_iff_eq, Bool.true_eq_false, Bool.false_eq_true, reduceCtorEq, ix] at h) | skip))))
    | (with_reducible apply ixg
       case' k => (repeat (first | with_reducible refine Oe ?_ | (with_reducible intro h; first | subst h | (simp only [decide_eq_true_eq, decide_eq_false_iff_not, Bool.not_eq_eq_eq_not, Bool.not_true, Bool.not_false, II, CJ, Bool.and_eq_true, Bool.or_eq_true, Bool.or_eq_false_iff, Bool.and_eq_false_imp, beq_iff_eq, bne_iff_ne, beq_eq_false_iff_ne, bne_eq_false_iff_eq, Bool.true_eq_false, Bool.false_eq_true, reduceCtorEq, ix] at h) | skip))))
    | (with_reducible apply bxg
       case' k => (repeat (first | with_reducible refine Oe ?_ | (with_reducible intro h; first | subst h | (simp only [decide_eq_true_eq, decide_eq_false_iff_not, Bool.not_eq_eq_eq_not, Bool.not_true, Bool.not_false, II, CJ, Bool.and_eq_true, Bool.or_eq_true, Bool.or_eq_false_iff, Bool.and_eq_false_imp, beq_iff_eq, bne_iff_ne, beq_eq_false_iff_ne, bne_eq_false_iff_eq, Bool.true_eq_false, Bool.false_eq_true, reduceCtorEq, ix] at h) | skip))))
    | with_reducible refine And.intro ?_ ?_
    | dsimp only
    | with_reducible refine sh0 ?_
    | with_reducible refine sh1 ?_
    | with_reducible refine sh2 ?_
    | with_reducible refine sh3 ?_
    | with_reducible refine sh4 (by with_reducible assumption) ?_
    | with_reducible refine sr0 ?_ ?_
    | with_reducible refine sr1 ?_ ?_
    | with_reducible refine mu0 ?_ ?_
    | with_reducible refine mu2 ?_ ?_
    | with_reducible refine mu3 ?_ ?_
    | with_reducible refine mu4 (by with_reducible assumption) ?_ ?_
    | with_reducible refine mu5 (by with_reducible assumption) ?_ ?_
    | with_reducible refine ce0 (by with_reducible assumption) ?_ ?_ ?_ ?_
    | with_reducible refine ce1 (by with_reducible assumption) ?_ ?_ ?_ ?_
    | with_reducible refine co0 ?_ ?_
    | with_reducible refine co1 ?_ ?_
    | with_reducible exact xr0
    | with_reducible exact w8a
    | with_reducible exact sz0
    | with_reducible refine sz1 ?_
    | with_reducible refine sh6 ?_
    | with_reducible exact w8b
    | with_reducible exact bo0
    | with_reducible refine mu6 ?_ ?_
    | with_reducible exact U1 _ _
    | with_reducible exact sI_b
    | with_reducible exact xr1
    | with_reducible refine tm0 ?_
    | with_reducible refine tm1 ?_ ?_
    | with_reducible refine tm2 ?_ ?_
    | (simp only [List.length_replicate, Int.reduceToNat]; done)
    | with_reducible refine ZS ?_ ?_
    | with_reducible refine JC ?_
    | with_reducible refine MN ?_ ?_
    | with_reducible exact ZT
    | with_reducible exact Qxr
    | with_reducible refine Qxs (by with_reducible assumption) (by with_reducible assumption) (by with_reducible assumption) ?_ ?_
    | with_reducible refine PX ?_
    | with_reducible refine Qxt (by with_reducible assumption) ?_
    | with_reducible refine Og ?_
    | with_reducible refine Qxq ?_
    | with_reducible refine XS ?_ ?_
    | with_reducible exact Qdq
    | with_reducible refine Qlj ?_
    | exact Or.inl (by with_reducible assumption)
    | exact Or.inr (by with_reducible assumption)
    | with_reducible refine Or.inr ?_
    | with_reducible refine Oe ?_
    | (with_reducible intro h
       first | subst h | (simp only [decide_eq_true_eq, decide_eq_false_iff_not, Bool.not_eq_eq_eq_not, Bool.not_true, Bool.not_false, II, CJ, Bool.and_eq_true, Bool.or_eq_true, Bool.or_eq_false_iff, Bool.and_eq_false_imp, beq_iff_eq, bne_iff_ne, beq_eq_false_iff_ne, bne_eq_false_iff_eq, Bool.true_eq_false, Bool.false_eq_true, reduceCtorEq, ix] at h) | skip
       first | (with_reducible refine fwm (by with_reducible assumption) h ?_; repeat (first | with_reducible refine Oe ?_ | (with_reducible intro h; first | subst h | (simp only [decide_eq_true_eq, decide_eq_false_iff_not, Bool.not_eq_eq_eq_not, Bool.not_true, Bool.not_false, II, CJ, Bool.and_eq_true, Bool.or_eq_true, Bool.or_eq_false_iff, Bool.and_eq_false_imp, beq_iff_eq, bne_iff_ne, beq_eq_false_iff_ne, bne_eq_false_iff_eq, Bool.true_eq_false, Bool.false_eq_true, reduceCtorEq, ix] at h) | skip))) | (with_reducible refine fwd (by with_reducible assumption) h ?_; repeat (first | with_reducible refine Oe ?_ | (with_reducible intro h; first | subst h | (simp only [decide_eq_true_eq, decide_eq_false_iff_not, Bool.not_eq_eq_eq_not, Bool.not_true, Bool.not_false, II, CJ, Bool.and_eq_true, Bool.or_eq_true, Bool.or_eq_false_iff, Bool.and_eq_false_imp, beq_iff_eq, bne_iff_ne, beq_eq_false_iff_ne, bne_eq_false_iff_eq, Bool.true_eq_false, Bool.false_eq_true, reduceCtorEq, ix] at h) | skip))) | skip)
    | (with_reducible refine idJ ?_
       with_reducible apply_assumption only [*])
    | omega
    | (simp only [zSn, zE, zI, zCm, zLl, zB, zP, MK, okV, oB, IntKind.wrap_i64, IntKind.wrap_u64, oN, oK, oE, Qlk, U1, IE, ByteArray.size_empty, List.length_append, List.length_cons, List.length_nil, List.length_set, List.length_map, List.length_take, List.length_drop] at *; first | omega | grind)
    | with_reducible exact trivial
    | (simp only [zSn, zE, zI, zCm, zLl, zB, zP, MK, okV, List.length_nil, ByteArray.size_empty]; done)
    | (simp only [zSn, zE, zI, zCm, zLl, zB, zP, MK, okV, List.length_nil, ByteArray.size_empty]; omega)
    | with_reducible rfl
    | grind
    | (with_reducible apply_assumption only [*]
       all_goals first | with_reducible assumption | omega | (simp only [Bool.not_eq_true, Bool.not_eq_false, decide_eq_true_eq, decide_eq_false_iff_not]; omega))
  all_goals fail) : p := h
theorem ZM {R : Type} {W W' : (R → Prop) → Prop} [Gm W] {Pre : Prop} {Post : R → Prop} (hW : ∀ Q, W Q = W' Q) (h : Pre → W' Post := by exact xx_) : Nx W Pre Post := ⟨fun hp => ex_ (by rw [hW]; exact h hp)⟩
theorem nxb {R : Type} {W W' : (R → Prop) → Prop} [Gm W] {Pre : Prop} {Post : R → Prop} (hW : ∀ Q, W Q = W' Q) (h : Pre → W' Post := by (first | simp only [bA1, bA3, bA7, Qlc, Qld, Qth, Q6m, Pg, C1] | skip); exact xx_) : Nx W Pre Post := ZM hW h
def nsV (l : List Qj) : List Int := l.flatMap (·.f9)
theorem Q21 (os : List Qc) : LA os = os.flatMap fun o => nsV o.fa9 := rfl
theorem Qxu {pg : List Qn} (h : pg.Pairwise fun a b => a.fc7 ≠ b.fc7) {p q : Qn} (hp : p ∈ pg) (hq : q ∈ pg) (e : p.fc7 = q.fc7) : p = q := by
 induction pg with
 | nil => cases hp
 | cons a l ih =>
  have h' := List.pairwise_cons.1 h
  rcases List.mem_cons.1 hp with e1 | hp1
  ·rcases List.mem_cons.1 hq with e2 | hq1
   ·rw [e1, e2]
   ·exact absurd (by rw [← e1]; exact e) (h'.1 q hq1)
  ·rcases List.mem_cons.1 hq with e2 | hq1
   ·exact absurd (by rw [← e2]; exact e.symm) (h'.1 p hp1)
   ·exact ih h'.2 hp1 hq1
theorem RX.alloc {os : List Qc} {ns : List Int} {pg pg' : List Qn} {n : Int} {d : List Int} (h : RX os ns pg) (hp : pg'.Perm (pg ++ [⟨n, 1, d⟩])) (hn : ∀ p ∈ pg, p.fc7 ≠ n) : RX os (ns ++ [n]) pg' ∧ (∀ m e, Has pg m e → Has pg' m e) ∧ Has pg' n d := by
 have mem : ∀ p : Qn, p ∈ pg' ↔ p ∈ pg ∨ p = ⟨n, 1, d⟩ := fun p => by rw [hp.mem_iff]; simp
 have n0 : n ∉ LA os ∧ n ∉ ns := ⟨fun k => by obtain ⟨p, a, b⟩ := h.pr n (.inl k); exact hn p a b, fun k => by obtain ⟨p, a, b⟩ := h.pr n (.inr k); exact hn p a b⟩
 refine ⟨{ nd := ?_, rf := fun p hp' => ?_, pr := fun m hm => ?_ }, fun m e ⟨p, a, b⟩ => ⟨p, (mem p).2 (.inl a), b⟩, ⟨(⟨n, 1, d⟩ : Qn), (mem _).2 (.inr rfl), rfl, rfl⟩⟩
 ·have q : (pg ++ [(⟨n, 1, d⟩ : Qn)]).Pairwise fun a b : Qn => a.fc7 ≠ b.fc7 := List.pairwise_append.2 ⟨h.nd, by simp, fun a ha b hb => by simp at hb; subst hb; exact hn a ha⟩
  exact hp.symm.pairwise q fun hab => Ne.symm hab
 ·rcases (mem p).1 hp' with hp' | rfl
  ·have := h.rf p hp'
   have e := hn p hp'
   rw [List.count_append, List.count_singleton]
   have : (n == p.fc7) = false := by simpa using Ne.symm e
   simp [this]; omega
  ·dsimp only
   rw [List.count_eq_zero.2 n0.1, List.count_append, List.count_eq_zero.2 n0.2]; simp
 ·by_cases e : m = n
  ·exact ⟨(⟨n, 1, d⟩ : Qn), (mem _).2 (.inr rfl), e.symm⟩
  ·obtain ⟨p, a, b⟩ := h.pr m (hm.imp id fun k => by simpa [e] using k)
   exact ⟨p, (mem p).2 (.inl a), b⟩
theorem Qll {α : Type} {l : List α} {i : Nat} {a x : α} (hi : i < l.length) : x ∈ l.set i a → x = a ∨ (∃ j, j ≠ i ∧ l[j]? = some x) := fun h => by
 obtain ⟨j, hj⟩ := List.getElem?_of_mem h
 rw [List.getElem?_set] at hj
 split at hj
 ·rename_i e
  left; simp_all
 ·right; exact ⟨j, by omega, hj⟩
theorem RX.upd {os : List Qc} {ns ns' : List Int} {pg : List Qn} {i : Nat} {p : Qn} {k : Int} (h : RX os ns pg) (hi : pg[i]? = some p) (hc : (ns'.count p.fc7 : Int) = (ns.count p.fc7 : Int) + k) (ho : ∀ m, m ≠ p.fc7 → ns'.count m = ns.count m) :
  RX os ns' (pg.set i ⟨p.fc7, p.fg7 + k, p.fc6⟩) ∧ ∀ m e, Has pg m e → Has (pg.set i ⟨p.fc7, p.fg7 + k, p.fc6⟩) m e := by
 have hb := (List.getElem?_eq_some_iff.1 hi).1
 have he : (pg.set i ⟨p.fc7, p.fg7 + k, p.fc6⟩).map (·.fc7) = pg.map (·.fc7) := by
  rw [List.map_set]
  apply List.ext_getElem?
  intro j
  rw [List.getElem?_set]
  split
  ·rename_i q; subst q; simp [hi]; exact hb
  ·rfl
 have hm : p ∈ pg := List.mem_of_getElem? hi
 have has : ∀ m e, Has pg m e → Has (pg.set i ⟨p.fc7, p.fg7 + k, p.fc6⟩) m e := fun m e ⟨q, hq, a, b⟩ => by
  obtain ⟨j, hj⟩ := List.getElem?_of_mem hq
  by_cases c : j = i
  ·subst c
   rw [hi] at hj; cases hj
   exact ⟨(⟨p.fc7, p.fg7 + k, p.fc6⟩ : Qn), List.mem_of_getElem? (i := j) (by rw [List.getElem?_set]; simp [hb]), a, b⟩
  ·exact ⟨q, List.mem_of_getElem? (i := j) (by rw [List.getElem?_set, if_neg (by omega)]; exact hj), a, b⟩
 refine ⟨{ nd := ?_, rf := fun q hq => ?_, pr := fun m hm' => ?_ }, has⟩
 ·have := List.pairwise_map.2 (show pg.Pairwise fun a b => a.fc7 ≠ b.fc7 from h.nd)
  rw [← he] at this
  exact List.pairwise_map.1 this
 ·rcases Qll hb hq with rfl | ⟨j, hj, hq'⟩
  ·dsimp only
   have := h.rf p hm
   omega
  ·have hq2 := List.mem_of_getElem? hq'
   have ne : q.fc7 ≠ p.fc7 := fun e => by
    have ej := (List.getElem?_eq_some_iff.1 hq').1
    have := List.pairwise_iff_getElem.1 h.nd
    rcases Nat.lt_or_gt_of_ne hj with g | g
    ·have := this j i ej hb g
     rw [(List.getElem?_eq_some_iff.1 hq').2, (List.getElem?_eq_some_iff.1 hi).2] at this
     exact this e
    ·have := this i j hb ej g
     rw [(List.getElem?_eq_some_iff.1 hq').2, (List.getElem?_eq_some_iff.1 hi).2] at this
     exact this e.symm
   rw [ho _ ne]; exact h.rf q hq2
 ·have : m ∈ LA os ∨ m ∈ ns ∨ m = p.fc7 := by
   rcases hm' with a | a
   ·exact .inl a
   ·by_cases c : m = p.fc7
    ·exact .inr (.inr c)
    ·right; left
     have := List.count_pos_iff.2 a
     rw [ho _ c] at this
     exact List.count_pos_iff.1 this
  have : ∃ q ∈ pg, q.fc7 = m := by
   rcases this with a | a | a
   ·exact h.pr m (.inl a)
   ·exact h.pr m (.inr a)
   ·exact ⟨p, hm, a.symm⟩
  obtain ⟨q, a, b⟩ := this
  obtain ⟨q', a', b', _⟩ := has m q.fc6 ⟨q, a, b, rfl⟩
  exact ⟨q', a', b'⟩
theorem RX.del {os : List Qc} {ns ns' : List Int} {pg : List Qn} {i : Nat} {p : Qn} (h : RX os ns pg) (hi : pg[i]? = some p) (hc : ns.count p.fc7 = ns'.count p.fc7 + 1) (ho : ∀ m, m ≠ p.fc7 → ns'.count m = ns.count m) (hk : p.fg7 = 1) :
  RX os ns' (pg.eraseIdx i) ∧ ∀ m e, m ≠ p.fc7 → Has pg m e → Has (pg.eraseIdx i) m e := by
 have hb := (List.getElem?_eq_some_iff.1 hi).1
 have sub : (pg.eraseIdx i).Sublist pg := List.eraseIdx_sublist _ _
 have hm : p ∈ pg := List.mem_of_getElem? hi
 have z := h.rf p hm
 have has : ∀ m e, m ≠ p.fc7 → Has pg m e → Has (pg.eraseIdx i) m e := fun m e ne ⟨q, hq, a, b⟩ => by
  refine ⟨q, ?_, a, b⟩
  rw [List.mem_eraseIdx_iff_getElem?]
  obtain ⟨j, hj⟩ := List.getElem?_of_mem hq
  refine ⟨j, fun c => ?_, hj⟩
  subst c
  rw [hi] at hj; cases hj
  exact ne a.symm
 have n1 : p.fc7 ∉ LA os ∧ p.fc7 ∉ ns' := by
  constructor
  ·intro k; have := List.count_pos_iff.2 k; omega
  ·intro k; have := List.count_pos_iff.2 k; omega
 refine ⟨{ nd := h.nd.sublist sub, rf := fun q hq => ?_, pr := fun m hm' => ?_ }, has⟩
 ·rw [List.mem_eraseIdx_iff_getElem?] at hq
  obtain ⟨j, hj, hq'⟩ := hq
  have ne : q.fc7 ≠ p.fc7 := fun e => by
   have := Qxu h.nd (List.mem_of_getElem? hq') hm e
   subst this
   have ej := (List.getElem?_eq_some_iff.1 hq').1
   have pw := List.pairwise_iff_getElem.1 h.nd
   rcases Nat.lt_or_gt_of_ne hj with g | g
   ·have := pw j i ej hb g
    rw [(List.getElem?_eq_some_iff.1 hq').2, (List.getElem?_eq_some_iff.1 hi).2] at this
    exact this rfl
   ·have := pw i j hb ej g
    rw [(List.getElem?_eq_some_iff.1 hq').2, (List.getElem?_eq_some_iff.1 hi).2] at this
    exact this rfl
  rw [ho _ ne]; exact h.rf q (List.mem_of_getElem? hq')
 ·have ne : m ≠ p.fc7 := fun e => by subst e; exact hm'.elim n1.1 n1.2
  have : m ∈ LA os ∨ m ∈ ns := hm'.imp id fun a => by
   have := List.count_pos_iff.2 a
   rw [ho _ ne] at this
   exact List.count_pos_iff.1 this
  obtain ⟨q, a, b⟩ := h.pr m this
  obtain ⟨q', a', b', _⟩ := has m q.fc6 ne ⟨q, a, b, rfl⟩
  exact ⟨q', a', b'⟩
theorem Cn.mono {pg pg' : List Qn} {l b : List Int} (h : Cn pg l b) (k : ∀ n ∈ l, ∀ d, Has pg n d → Has pg' n d) : Cn pg' l b := by
 induction l generalizing b with
 | nil => exact h
 | cons n l ih =>
  obtain ⟨d, r, h1, h2, h3⟩ := h
  exact ⟨d, r, k n (by simp) d h1, ih h2 (fun m hm => k m (by simp [hm])), h3⟩
theorem Cn.app {pg : List Qn} {l b : List Int} {n : Int} {d : List Int} (h : Cn pg l b) (k : Has pg n d) : Cn pg (l ++ [n]) (b ++ d) := by
 induction l generalizing b with
 | nil => cases h; exact ⟨d, [], k, rfl, by simp⟩
 | cons m l ih =>
  obtain ⟨e, r, h1, h2, rfl⟩ := h
  exact ⟨e, r ++ d, h1, ih h2, by simp⟩
theorem getD_take (l : List Int) (n i : Nat) : (l.take n).getD i 0 = l.getD i 0 ∨ (l.take n).getD i 0 = 0 := by
 by_cases h : i < n
 ·left; simp [List.getD_eq_getElem?_getD, List.getElem?_take, h]
 ·right; simp [List.getD_eq_getElem?_getD, List.getElem?_take, h]
theorem Qdr {l : List Int} (h : hd l) (n : Nat) : hd (l.take n) := by
 obtain ⟨h1, h2⟩ := h
 have a := getD_take l n 0
 have b := getD_take l n 1
 have c := getD_take l n 2
 refine ⟨fun e => ?_, fun e => ?_⟩
 ·have := h1 (by omega); omega
 ·have := h2 (by omega); omega
theorem Z0s {l m : List Int} (h : hd m) (p : l <+: m) : hd l := by
 rw [List.prefix_iff_eq_take.1 p]; exact Qdr h _
theorem Qlm (b : List Int) (n : Nat) : bod (b.take n) <+: bod b := by
 unfold bod
 have a := getD_take b n 1
 by_cases h : 1 < n
 ·have e : (b.take n).getD 1 0 = b.getD 1 0 := by simp [List.getD_eq_getElem?_getD, List.getElem?_take, h]
  rw [e]
  split
  ·rw [List.drop_take, List.take_take, Nat.min_comm, ← List.take_take]; exact List.take_prefix _ _
  ·rw [List.drop_take]; exact List.take_prefix _ _
 ·have e : (b.take n).getD 1 0 = 0 := by simp [List.getD_eq_getElem?_getD, List.getElem?_take, h]
  rw [e]; simp
theorem Gb.take {b : List Int} (h : Gb b) (n : Nat) : Gb (b.take n) := Z0s h (Qlm b n)
theorem PY : hd [] := by simp [hd]
theorem Gb.nil : Gb [] := by unfold Gb bod hd; simp
theorem Gd.nil : Gd [] := fun n => by unfold bod; simpa using Gb.nil
theorem u8s {n : Int} (h0 : 0 ≤ n) (h : n ≤ 255) : IntKind.u8.wrap n = n := by rw [IntKind.wrap_u8]; omega
theorem getD_drop (l : List Int) (n i : Nat) : (l.drop n).getD i 0 = l.getD (n + i) 0 := by simp [List.getD_eq_getElem?_getD]
theorem getD_at {l : List Int} {i : Nat} {x : Int} (h : l[i]? = some x) : l.getD i 0 = x := by simp [List.getD_eq_getElem?_getD, h]
theorem G4 {l m : List Int} {i : Nat} (h : i < l.length) : (l ++ m).getD i 0 = l.getD i 0 := by simp [List.getD_eq_getElem?_getD, List.getElem?_append_left h]
theorem Gb.app {b : List Int} (h : Gb b) (l : 20 ≤ b.length) (k : b.getD 1 0 ≤ 255) (m : List Int) : Gb (b ++ m) := by
 unfold Gb hd bod at *
 rw [G4 (by omega)]
 split at h
 ·rename_i c
  rw [if_pos c, List.drop_append_of_le_length (by omega), List.take_append]
  have q : ∀ i, i < 3 → (List.take (b.getD 1 0).toNat (List.drop 2 b) ++ List.take ((b.getD 1 0).toNat - (List.drop 2 b).length) m).getD i 0 = (List.take (b.getD 1 0).toNat (List.drop 2 b)).getD i 0 := fun i hi => by
   by_cases z : i < (b.getD 1 0).toNat
   ·exact G4 (by rw [List.length_take, List.length_drop]; omega)
   ·have : (b.getD 1 0).toNat - (List.drop 2 b).length = 0 := by rw [List.length_drop]; omega
    rw [this]; simp
  rw [q 0 (by omega), q 1 (by omega), q 2 (by omega)]; exact h
 ·rename_i c
  rw [if_neg c, List.drop_append_of_le_length (by omega)]
  have q : ∀ i, i < 3 → (List.drop (2 + (b.getD 1 0 - 247).toNat) b ++ m).getD i 0 = (List.drop (2 + (b.getD 1 0 - 247).toNat) b).getD i 0 := fun i hi => G4 (by rw [List.length_drop]; omega)
  rw [q 0 (by omega), q 1 (by omega), q 2 (by omega)]; exact h
def UnP (n : Int) (r : List Int) : Prop := (n < 248 → r = [n]) ∧ (248 ≤ n → ∃ (k : Int) (t : List Int), r = (247 + k) :: t ∧ (t.length : Int) = k ∧ 1 ≤ k)
def RnP (a : Qx) (r : Int × Qx) : Prop := r.2.fb = a.fb ∧ (a.fbad = true → r.1 = 0 ∧ r.2.fbad = true) ∧ (a.fb.getD a.fat.toNat 0 < 248 → (r.1 = 0 ∧ r.2.fbad = true) ∨ (r.1 = a.fb.getD a.fat.toNat 0 ∧ r.2.fat = a.fat + 1))
def DuP (a : List Int) (r : Int × Int × Int) : Prop := r.2.2 = 0 → (a.getD 0 0 < 248 → r.1 = a.getD 0 0 ∧ r.2.1 = 1) ∧ (248 ≤ a.getD 0 0 → r.2.1 = a.getD 0 0 - 246 ∧ 248 ≤ r.1)
def FrP (t : Int) (b r : List Int) : Prop := b.length ≤ 1048576 → ∃ u c, UnP b.length u ∧ r = t :: (u ++ b ++ c)
theorem Q0o {t : Int} {u b c : List Int} (h : UnP b.length u) : bod (t :: (u ++ b ++ c)) = b ∨ (248 ≤ b.length ∧ bod (t :: (u ++ b ++ c)) = b ++ c) := by
 by_cases k : (b.length : Int) < 248
 ·left
  rw [h.1 k]; unfold bod
  simp [List.getD_eq_getElem?_getD]
  omega
 ·right
  obtain ⟨k, s, rfl, l, k1⟩ := h.2 (by omega)
  refine ⟨by omega, ?_⟩
  unfold bod
  have e : (t :: ((247 + k) :: s ++ b ++ c)).getD 1 0 = 247 + k := by simp [List.getD_eq_getElem?_getD]
  rw [e, if_neg (by omega)]
  have e2 : 2 + (247 + k - 247).toNat = s.length + 2 := by omega
  rw [e2]
  simp
theorem Gb.frame {t : Int} {u b c : List Int} (h : UnP b.length u) (g : hd b) : Gb (t :: (u ++ b ++ c)) := by
 unfold Gb
 rcases Q0o (t := t) (c := c) h with e | ⟨l, e⟩
 ·rw [e]; exact g
 ·rw [e]
  unfold hd at *
  rw [G4 (by omega), G4 (by omega), G4 (by omega)]; exact g
theorem Gd.frame {t : Int} {u b c : List Int} (h : UnP b.length u) (g : Gb b) (k : b.getD 1 0 ≤ 255) : Gd (t :: (u ++ b ++ c)) := by
 intro n
 rcases Q0o (t := t) (c := c) h with e | ⟨l, e⟩
 ·rw [e]; exact g.take n
 ·rw [e]; exact (g.app (by omega) k c).take n
theorem Gb.fr {t : Int} {b r : List Int} (h : FrP t b r) (l : b.length ≤ 1048576) (g : hd b) : Gb r := by
 obtain ⟨u, c, h1, rfl⟩ := h l
 exact Gb.frame h1 g
theorem Gd.fr {t : Int} {b r : List Int} (h : FrP t b r) (l : b.length ≤ 1048576) (g : Gb b) (k : bB b) : Gd r := by
 obtain ⟨u, c, h1, rfl⟩ := h l
 refine Gd.frame h1 g ?_
 rw [List.getD_eq_getElem?_getD]
 by_cases i : 1 < b.length
 ·rw [List.getElem?_eq_getElem i]; exact (k _ (List.getElem_mem i)).2
 ·rw [List.getElem?_eq_none (by omega)]; decide
theorem FrP.no {t : Int} {b r : List Int} (h : (b.length : Int) > 1048576) : FrP t b r := fun l => by omega
theorem FrP.ok {t : Int} {b u c : List Int} (h : 0 ≤ (b.length : Int) → UnP (b.length : Int) u) : FrP t b ((([t] ++ u) ++ b) ++ c) := fun _ => ⟨u, c, h (by omega), by simp⟩
theorem Qb1 {b : List Int} {r : Int × Int × Int} {m : Nat} (h : hd b) (d : DuP b r) (e : r.2.2 = 0) (i : Nat) : (r.1 = b.getD 0 0 ∧ (((b.drop (0 + r.2.1.toNat)).take m).getD i 0 = b.getD (1 + i) 0 ∨ ((b.drop (0 + r.2.1.toNat)).take m).getD i 0 = 0)) ∨ 248 ≤ r.1 := by
 by_cases c : b.getD 0 0 < 248
 ·obtain ⟨e1, e2⟩ := (d e).1 c
  left
  have := getD_take (b.drop (0 + r.2.1.toNat)) m i
  rw [getD_drop, e2] at this
  rw [e2]
  exact ⟨e1, this⟩
 ·exact .inr ((d e).2 (by omega)).2
theorem hd20 {b : List Int} {r : Int × Int × Int} {m : Nat} (h : hd b) (d : DuP b r) (e : r.2.2 = 0) (k : r.1 = 2) : ((b.drop (0 + r.2.1.toNat)).take m).getD 0 0 ≤ 2 := by
 rcases Qb1 (m := m) h d e 0 with ⟨e1, e2⟩ | g
 ·simp only [Nat.reduceAdd] at e2; have := (h.1 (by omega)).1; omega
 ·omega
theorem hd21 {b : List Int} {r : Int × Int × Int} {m : Nat} (h : hd b) (d : DuP b r) (e : r.2.2 = 0) (k : r.1 = 2) : ((b.drop (0 + r.2.1.toNat)).take m).getD 1 0 ≤ 4 := by
 rcases Qb1 (m := m) h d e 1 with ⟨e1, e2⟩ | g
 ·simp only [Nat.reduceAdd] at e2; have := (h.1 (by omega)).2; omega
 ·omega
theorem hd60 {b : List Int} {r : Int × Int × Int} {m : Nat} (h : hd b) (d : DuP b r) (e : r.2.2 = 0) (k : r.1 = 6) : ((b.drop (0 + r.2.1.toNat)).take m).getD 0 0 ≤ 4 := by
 rcases Qb1 (m := m) h d e 0 with ⟨e1, e2⟩ | g
 ·simp only [Nat.reduceAdd] at e2; have := h.2 (by omega); omega
 ·omega
theorem Qfw {k : Int} {p : List Int} (h1 : k = 2 → p.getD 0 0 ≤ 2 ∧ p.getD 1 0 ≤ 4) (h2 : k = 6 → p.getD 0 0 ≤ 4) : hd (k :: p) := by
 unfold hd; simpa using ⟨h1, h2⟩
theorem spl {k : Int} (h : QD .i64 k 4 % 16 = 6) : QD .i64 k 3 % 32 = 12 ∨ QD .i64 k 3 % 32 = 13 := by
 have e4 : QD .i64 k 4 = k / 16 := by
  show Int.fdiv k (2 ^ (4 : Int).toNat) = k / 16
  rw [Int.fdiv_eq_ediv_of_nonneg _ (by decide)]; rfl
 have e3 : QD .i64 k 3 = k / 8 := by
  show Int.fdiv k (2 ^ (3 : Int).toNat) = k / 8
  rw [Int.fdiv_eq_ediv_of_nonneg _ (by decide)]; rfl
 rw [e4] at h; rw [e3]; omega
theorem Z0t {p q : Prop} (h : p → q) (a : p) : q := h a
theorem cl8 {n : Nat} {d s : Int} (h : (n : Int) = d * s) (d1 : 1 ≤ d) (d2 : d ≤ 2) (s1 : 1 ≤ s) (s2 : s ≤ 4) : n ≤ 8 := by
 have : d = 1 ∨ d = 2 := by omega
 rcases this with rfl | rfl <;> omega
theorem Xs.new {c : Qz} (h : 0 ≤ c.f9) : Xs (Q2.mk c 0 0 [] [] [] (Qq.mk c.f9 [])) := { rx := ⟨by simp, by simp, by simp [LA]⟩, go := by simp, du := by simp, vf := by simp, ps := by simp, cp := ⟨rfl, by simpa using h⟩, rb := by simp, nv := by simp [vsO] }
def kv (v : Qj) : Int × List Int := (v.fd0, v.f9)
theorem Xs.of {s t : Q2} (h : Xs s) (h1 : t.f7 = s.f7) (h2 : t.fa1 = s.fa1) (h3 : t.fc1 = s.fc1) (h4 : t.fj = s.fj) : Xs t := { rx := by rw [h2, h3]; exact h.rx, go := by rw [h2, h3]; exact h.go, du := by rw [h2]; exact h.du, vf := by rw [h1, h2]; exact h.vf, ps := by rw [h3, h4]; exact h.ps, cp := by rw [h3, h4]; exact h.cp, rb := by rw [h1, h3]; exact h.rb, nv := by rw [h1, h2]; exact h.nv }
theorem Xs.pn {s : Q2} (h : Xs s) {p : List QN} : Xs (Q2.mk s.fj s.f7 s.ff4 s.fa1 s.fb4 p s.fc1) := h.of rfl rfl rfl rfl
theorem RX.of_cnt {os os' : List Qc} {ns ns' : List Int} {pg : List Qn} (h : RX os ns pg) (e : ∀ n, (LA os').count n + ns'.count n ≤ (LA os).count n + ns.count n) : RX os' ns' pg :=
  { nd := h.nd, rf := fun p hp => by have := h.rf p hp; have := e p.fc7; omega, pr := fun n hn => h.pr n (by
       have : 0 < (LA os').count n + ns'.count n := by
         rcases hn with k | k
         · have := List.count_pos_iff.2 k; omega
         · have := List.count_pos_iff.2 k; omega
       have := e n
       by_cases c : 0 < (LA os).count n
       · exact .inl (List.count_pos_iff.1 c)
       · exact .inr (List.count_pos_iff.1 (by omega))) }
theorem Qti (a b : List Qc) : LA (a ++ b) = LA a ++ LA b := by simp [LA]
theorem Qds (a b : List Qj) : nsV (a ++ b) = nsV a ++ nsV b := by simp [nsV]
theorem Ph {os : List Qc} {i : Nat} {o o' : Qc} (h : os[i]? = some o) (n : Int) : (LA (os.set i o')).count n + (nsV o.fa9).count n = (LA os).count n + (nsV o'.fa9).count n := by
 induction os generalizing i with
 | nil => simp at h
 | cons a l ih =>
  cases i with
  | zero =>
   simp at h; subst h
   simp only [List.set_cons_zero, Q21, List.flatMap_cons, List.count_append]; omega
  | succ i =>
   simp only [List.getElem?_cons_succ] at h
   have := ih h
   simp only [List.set_cons_succ, Q21, List.flatMap_cons, List.count_append] at this ⊢; omega
theorem Q22 {os : List Qc} {i : Nat} {o : Qc} (h : os[i]? = some o) (n : Int) : (LA (os.eraseIdx i)).count n + (nsV o.fa9).count n = (LA os).count n := by
 induction os generalizing i with
 | nil => simp at h
 | cons a l ih =>
  cases i with
  | zero =>
   simp at h; subst h
   simp only [List.eraseIdx_cons_zero, Q21, List.flatMap_cons, List.count_append]; omega
  | succ i =>
   simp only [List.getElem?_cons_succ] at h
   have := ih h
   simp only [List.eraseIdx_cons_succ, Q21, List.flatMap_cons, List.count_append] at this ⊢; omega
theorem Qdt {os : List Qc} {i : Nat} {o o' : Qc} (h : os[i]? = some o) : (vsO (os.set i o')).length + o.fa9.length = (vsO os).length + o'.fa9.length := by
 induction os generalizing i with
 | nil => simp at h
 | cons a l ih =>
  cases i with
  | zero =>
   simp at h; subst h
   simp only [List.set_cons_zero, vsO, List.flatMap_cons, List.length_append]; omega
  | succ i =>
   simp only [List.getElem?_cons_succ] at h
   have := ih h
   simp only [List.set_cons_succ, vsO, List.flatMap_cons, List.length_append] at this ⊢; omega
theorem Qtj {os : List Qc} {i : Nat} {o : Qc} (h : os[i]? = some o) : (vsO (os.eraseIdx i)).length + o.fa9.length = (vsO os).length := by
 induction os generalizing i with
 | nil => simp at h
 | cons a l ih =>
  cases i with
  | zero =>
   simp at h; subst h
   simp only [List.eraseIdx_cons_zero, vsO, List.flatMap_cons, List.length_append]; omega
  | succ i =>
   simp only [List.getElem?_cons_succ] at h
   have := ih h
   simp only [List.eraseIdx_cons_succ, vsO, List.flatMap_cons, List.length_append] at this ⊢; omega
theorem Q23 {os : List Qc} {o : Qc} {v : Qj} {n : Int} (ho : o ∈ os) (hv : v ∈ o.fa9) (hn : n ∈ v.f9) : n ∈ LA os := List.mem_flatMap.2 ⟨o, ho, List.mem_flatMap.2 ⟨v, hv, hn⟩⟩
theorem Qln (l : List Qj) : nsV l = ((l.map kv).map Prod.snd).flatten := by simp [nsV, List.flatMap_def, kv, Function.comp_def]
theorem Qlo {l m : List (List Int)} (h : l.Sublist m) : l.flatten.Sublist m.flatten := by
 induction h with
 | slnil => simp
 | cons a _ ih => rw [List.flatten_cons]; exact ih.trans (List.sublist_append_right _ _)
 | cons_cons a _ ih => rw [List.flatten_cons, List.flatten_cons]; exact List.Sublist.append (List.Sublist.refl _) ih
theorem Qlp {l : List Qj} {i : Nat} {b b' : Qj} (h : l[i]? = some b) (e : kv b' = kv b) : (l.set i b').map kv = l.map kv := by
 rw [List.map_set, e]
 apply List.ext_getElem?
 intro k
 rw [List.getElem?_set]
 split
 ·rename_i q; subst q; simp [h]; exact (List.getElem?_eq_some_iff.1 h).1
 ·rfl
def Ss (os : List Qc) : List (Int × Int) := os.flatMap fun o => o.fa9.map fun v => (o.fID, v.fd0)
def bf (p q : Int × Int) : Bool := decide (p.1 < q.1) || (decide (p.1 = q.1) && decide (p.2 < q.2))
def EF (os : List Qc) (a : QE) : Nat := (Ss os).countP fun p => !bf p (a.fb7, a.fd0)
theorem Qlq {β : Type} {f : Qc → List β} (q : β → Bool) {os : List Qc} {i : Nat} {o o' : Qc} (h : os[i]? = some o) : ((os.set i o').flatMap f).countP q + (f o).countP q = (os.flatMap f).countP q + (f o').countP q := by
 induction os generalizing i with
 | nil => simp at h
 | cons a l ih =>
  cases i with
  | zero =>
   simp at h; subst h
   simp only [List.set_cons_zero, List.flatMap_cons, List.countP_append]; omega
  | succ i =>
   simp only [List.getElem?_cons_succ] at h
   have := ih h
   simp only [List.set_cons_succ, List.flatMap_cons, List.countP_append] at this ⊢; omega
theorem Z0u {β : Type} {f : Qc → List β} (q : β → Bool) {os : List Qc} {i : Nat} {o : Qc} (h : os[i]? = some o) : ((os.eraseIdx i).flatMap f).countP q + (f o).countP q = (os.flatMap f).countP q := by
 induction os generalizing i with
 | nil => simp at h
 | cons a l ih =>
  cases i with
  | zero =>
   simp at h; subst h
   simp only [List.eraseIdx_cons_zero, List.flatMap_cons, List.countP_append]; omega
  | succ i =>
   simp only [List.getElem?_cons_succ] at h
   have := ih h
   simp only [List.eraseIdx_cons_succ, List.flatMap_cons, List.countP_append] at this ⊢; omega
theorem Qxv (l : List Qj) (i : Int) : (l.map fun v => (i, v.fd0)) = (l.map kv).map fun k => (i, k.1) := by rw [List.map_map]; rfl
structure Ob (c : Int) (ns : List Int) (os os' : List Qc) : Prop where
 ct : ∀ n, (LA os').count n ≤ (LA os).count n + ns.count n
 ve : ∀ o ∈ os', ∀ v ∈ o.fa9, (∃ p ∈ os, ∃ u ∈ p.fa9, u.f9 = v.f9 ∧ u.fd0 = v.fd0) ∨ (v.f9 = ns ∧ 0 ≤ v.fd0 ∧ v.fd0 ≤ c)
 nl : (vsO os').length ≤ (vsO os).length + 1
 kc : ∀ q : Int × Int → Bool, (Ss os').countP q ≤ (Ss os).countP q + 1
theorem Ob.set {c f : Int} {ns : List Int} {os : List Qc} {k : Nat} {o : Qc} {l : List Qj} (ho : os[k]? = some o) (h : (l.map kv).Sublist (o.fa9.map kv ++ [(f, ns)])) (hf : 0 ≤ f ∧ f ≤ c) : Ob c ns os (os.set k ⟨o.fID, l⟩) := by
 have om := List.mem_of_getElem? ho
 refine ⟨fun n => ?_, XS (fun p hp v hv => .inl ⟨p, hp, v, hv, rfl, rfl⟩) fun v hv => ?_, ?_, fun q => ?_⟩
 ·have e := Ph (o' := ⟨o.fID, l⟩) ho n
  have q := (Qlo (h.map Prod.snd)).count_le n
  rw [← Qln, List.map_append, List.flatten_append, ← Qln, List.count_append] at q
  simp only [List.map_cons, List.map_nil, List.flatten_cons, List.flatten_nil, List.append_nil] at q
  dsimp only at e; omega
 ·have := h.subset (List.mem_map.2 ⟨v, hv, rfl⟩)
  rcases List.mem_append.1 this with m | m
  ·obtain ⟨u, hu, e⟩ := List.mem_map.1 m
   unfold kv at e
   rw [Prod.mk.injEq] at e
   exact .inl ⟨o, om, u, hu, e.2, e.1⟩
  ·have e := List.mem_singleton.1 m
   unfold kv at e
   rw [Prod.mk.injEq] at e
   exact .inr ⟨e.2, by omega, by omega⟩
 ·have e := Qdt (o' := ⟨o.fID, l⟩) ho
  have q := h.length_le
  simp only [List.length_map, List.length_append, List.length_cons, List.length_nil] at q
  dsimp only at e; omega
 ·have e := Qlq (f := fun o => o.fa9.map fun v => (o.fID, v.fd0)) q (o' := ⟨o.fID, l⟩) ho
  have h2 := (h.map fun k => (o.fID, k.1)).countP_le (p := q)
  rw [List.map_append, List.countP_append, ← Qxv, ← Qxv] at h2
  have h3 := List.countP_le_length (p := q) (l := List.map (fun k : Int × List Int => (o.fID, k.1)) [(f, ns)])
  simp only [List.length_map, List.length_cons, List.length_nil] at h3
  unfold Ss
  dsimp only at e; omega
theorem Ob.app {c i t z f : Int} {ns : List Int} {os : List Qc} (hf : 0 ≤ f ∧ f ≤ c) : Ob c ns os (os ++ [⟨i, [⟨f, t, z, ns⟩]⟩]) := by
 refine ⟨fun n => ?_, ZS (fun p hp v hv => .inl ⟨p, hp, v, hv, rfl, rfl⟩) (JC (JC (.inr ⟨rfl, hf⟩))), ?_, fun q => ?_⟩
 ·rw [Qti, List.count_append]; simp [LA]
 ·simp [vsO]
 ·unfold Ss
  rw [List.flatMap_append, List.countP_append]
  have := List.countP_le_length (p := q) (l := List.flatMap (fun o : Qc => o.fa9.map fun v => (o.fID, v.fd0)) [(⟨i, [⟨f, t, z, ns⟩]⟩ : Qc)])
  simp only [List.flatMap_cons, List.flatMap_nil, List.append_nil, List.map_cons, List.map_nil, List.length_cons, List.length_nil] at this ⊢
  omega
theorem Ob.refl {c : Int} {os : List Qc} : Ob c [] os os := ⟨fun n => by simp, fun p hp v hv => .inl ⟨p, hp, v, hv, rfl, rfl⟩, by omega, fun q => by omega⟩
structure Xp (s : Q2) (ns : List Int) (cap : Int) (pg : List Qn) : Prop where
 rx : RX s.fa1 ns pg
 hs : ∀ n d, Has s.fc1.f9 n d → Has pg n d
 du : ns.Nodup
 ps : ∀ p ∈ pg, (p.fc6.length : Int) ≤ s.fj.fb6
 cp : cap = s.fj.f9 ∧ (pg.length : Int) ≤ s.fj.f9
 rb : ∀ p ∈ pg, p.fg7 ≤ 2000000 * (s.f7 + 1) + (ns.length : Int)
theorem Xp.start {s : Q2} (h : Xs s) : Xp s [] s.fc1.fc2 s.fc1.f9 := { rx := h.rx, hs := fun _ _ k => k, du := by simp, ps := h.ps, cp := h.cp, rb := fun p hp => by have := h.rb p hp; simpa using this }
theorem Xs.com {s : Q2} (h : Xs s) {ns : List Int} {cap : Int} {pg : List Qn} {b : List Int} {bs : List Qp} {i : Int} {os : List Qc} (p : Xp s ns cap pg) (hb : Cn pg ns b) (gb : Gb b) (ho : Ob (s.f7 + 1) ns s.fa1 os) (hl : ns.length ≤ 2000000) : Xs ⟨s.fj, s.f7 + 1, i, os, bs, s.fc8, ⟨cap, pg⟩⟩ := by
 refine { rx := p.rx.of_cnt fun n => by have := ho.ct n; simpa using this, go := fun o hm v hv => ?_, du := fun o hm v hv => ?_, vf := fun o hm v hv => ?_, ps := p.ps, cp := p.cp, rb := fun q hq => by have := p.rb q hq; dsimp only; omega, nv := by have := h.nv; have := ho.nl; dsimp only; omega }
 ·rcases ho.ve o hm v hv with ⟨q, hq, u, hu, e, _⟩ | ⟨e, _⟩
  ·obtain ⟨d, d1, d2⟩ := h.go q hq u hu
   exact ⟨d, by rw [← e]; exact d1.mono fun n _ d => p.hs n d, d2⟩
  ·exact ⟨b, by rw [e]; exact hb, gb⟩
 ·rcases ho.ve o hm v hv with ⟨q, hq, u, hu, e, _⟩ | ⟨e, _⟩
  ·rw [← e]; exact h.du q hq u hu
  ·rw [e]; exact p.du
 ·rcases ho.ve o hm v hv with ⟨q, hq, u, hu, _, e⟩ | ⟨_, e⟩
  ·have := h.vf q hq u hu; dsimp only; omega
  ·exact e
theorem Xs.com0 {s : Q2} (h : Xs s) {bs : List Qp} {i : Int} {os : List Qc} (ho : Ob (s.f7 + 1) [] s.fa1 os) : Xs ⟨s.fj, s.f7 + 1, i, os, bs, s.fc8, s.fc1⟩ := h.com (Xp.start h) (b := []) rfl Gb.nil ho (by simp)
def Nd (pg : List Qn) : Prop := pg.Pairwise fun a b => a.fc7 ≠ b.fc7
def IxP (pg : List Qn) (n r : Int) : Prop := (r < 0 → ∀ p ∈ pg, p.fc7 ≠ n) ∧ (0 ≤ r → ∃ p, pg[r.toNat]? = some p ∧ p.fc7 = n)
def AlP (a : Qq) (d : List Int) (r : Qq × Int × Int) : Prop := d.length ≤ 1024 → (a.f9.length : Int) < a.fc2 → r.1.fc2 = a.fc2 ∧ r.1.f9.Perm (a.f9 ++ [⟨r.2.1, 1, d⟩]) ∧ ∀ p ∈ a.f9, p.fc7 ≠ r.2.1
def HoP (a : Qq) (n : Int) (r : Qq) : Prop := r.fc2 = a.fc2 ∧ ∀ (i : Nat) p, a.f9[i]? = some p → p.fc7 = n → Nd a.f9 → 0 ≤ p.fg7 → p.fg7 ≤ 4611686018427387904 → r.f9 = a.f9.set i ⟨p.fc7, p.fg7 + 1, p.fc6⟩
def ReP (a : Qq) (n : Int) (r : Qq) : Prop := r.fc2 = a.fc2 ∧ ∀ (i : Nat) p, a.f9[i]? = some p → p.fc7 = n → Nd a.f9 → 1 ≤ p.fg7 → p.fg7 ≤ 4611686018427387904 → (1 < p.fg7 → r.f9 = a.f9.set i ⟨p.fc7, p.fg7 + -1, p.fc6⟩) ∧ (p.fg7 = 1 → r.f9 = a.f9.eraseIdx i)
def DaP (pg : List Qn) (n : Int) (r : List Int) : Prop := ∀ d, Nd pg → Has pg n d → r = d
def SdP (pg : List Qn) (ns : List Int) (r : List (List Int)) : Prop := r.length = ns.length ∧ (Nd pg → ∀ (k : Nat) n d, ns[k]? = some n → Has pg n d → r[k]? = some d)
theorem Qxw {pg : List Qn} (h : Nd pg) {i j : Nat} {p q : Qn} (hi : pg[i]? = some p) (hj : pg[j]? = some q) (e : p.fc7 = q.fc7) : i = j := by
 have a := (List.getElem?_eq_some_iff.1 hi).1
 have b := (List.getElem?_eq_some_iff.1 hj).1
 have pw := List.pairwise_iff_getElem.1 h
 rcases Nat.lt_trichotomy i j with g | g | g
 ·have := pw i j a b g
  rw [(List.getElem?_eq_some_iff.1 hi).2, (List.getElem?_eq_some_iff.1 hj).2] at this
  exact absurd e this
 ·exact g
 ·have := pw j i b a g
  rw [(List.getElem?_eq_some_iff.1 hi).2, (List.getElem?_eq_some_iff.1 hj).2] at this
  exact absurd e.symm this
theorem SdP.cn {pg : List Qn} {ns b : List Int} {r : List (List Int)} (h : SdP pg ns r) (hn : Nd pg) (c : Cn pg ns b) : r.flatten = b := by
 obtain ⟨hl, hk⟩ := h
 replace hk := hk hn
 induction ns generalizing r b with
 | nil => cases c; have : r = [] := List.eq_nil_of_length_eq_zero (by simpa using hl); simp [this]
 | cons n l ih =>
  obtain ⟨d, t, h1, h2, rfl⟩ := c
  cases r with
  | nil => simp at hl
  | cons x r =>
   have := hk 0 n d rfl h1
   simp at this; subst this
   rw [List.flatten_cons, ih h2 (by simpa using hl) fun k m d hm => by simpa using hk (k + 1) m d (by simpa using hm)]
theorem Xp.alloc {s : Q2} {ns d : List Int} {a : Qq} {r : Qq × Int × Int} (h : Xp s ns a.fc2 a.f9) (p : AlP a d r) (hd : (d.length : Int) ≤ s.fj.fb6) (h1 : d.length ≤ 1024) (hl : (a.f9.length : Int) < s.fj.f9) (hc : 0 ≤ s.f7) : Xp s (ns ++ [r.2.1]) r.1.fc2 r.1.f9 ∧ Has r.1.f9 r.2.1 d ∧ (∀ m e, Has a.f9 m e → Has r.1.f9 m e) ∧ r.1.f9.length = a.f9.length + 1 ∧ ∀ p ∈ a.f9, p.fc7 ≠ r.2.1 := by
 obtain ⟨p1, p2, p3⟩ := p h1 (by rw [h.cp.1]; exact hl)
 obtain ⟨q1, q2, q3⟩ := h.rx.alloc p2 p3
 have len : r.1.f9.length = a.f9.length + 1 := by have := p2.length_eq; simpa using this
 have mem : ∀ q ∈ r.1.f9, q ∈ a.f9 ∨ q = ⟨r.2.1, 1, d⟩ := fun q hq => by have := p2.mem_iff.1 hq; simpa using this
 refine ⟨{ rx := q1, hs := fun n d k => q2 n d (h.hs n d k), du := ?_, ps := fun q hq => ?_, cp := ⟨by rw [p1]; exact h.cp.1, by omega⟩, rb := fun q hq => ?_ }, q3, q2, len, p3⟩
 ·refine List.nodup_append.2 ⟨h.du, by simp, fun x hx y hy e => ?_⟩
  rw [List.mem_singleton.1 hy] at e
  obtain ⟨q, g1, g2⟩ := h.rx.pr x (.inr hx)
  exact p3 q g1 (by omega)
 ·rcases mem q hq with g | rfl
  ·exact h.ps q g
  ·exact hd
 ·rcases mem q hq with g | rfl
  ·have := h.rb q g; simp only [List.length_append, List.length_cons, List.length_nil]; omega
  ·simp only [List.length_append, List.length_cons, List.length_nil]; omega
theorem Xp.hold {s : Q2} {ns : List Int} {a r : Qq} {n : Int} (h : Xp s ns a.fc2 a.f9) (p : HoP a n r) (hn : n ∈ LA s.fa1) (hm : n ∉ ns) (hc : 0 ≤ s.f7 ∧ s.f7 ≤ 2000000) (hl : ns.length ≤ 2000000) : Xp s (ns ++ [n]) r.fc2 r.f9 ∧ (∀ m e, Has a.f9 m e → Has r.f9 m e) ∧ r.f9.length = a.f9.length := by
 obtain ⟨q, hq, rfl⟩ := h.rx.pr n (.inl hn)
 obtain ⟨i, hi⟩ := List.getElem?_of_mem hq
 have rf := h.rx.rf q hq
 have rb := h.rb q hq
 have e := p.2 i q hi rfl h.rx.nd (by omega) (by omega)
 have u := h.rx.upd (k := 1) (ns' := ns ++ [q.fc7]) hi (by rw [List.count_append]; simp) (fun m hm => by
  have : (q.fc7 == m) = false := by simpa using Ne.symm hm
  rw [List.count_append, List.count_singleton]; simp [this])
 rw [← e] at u
 have len : r.f9.length = a.f9.length := by rw [e]; simp
 have mem : ∀ x ∈ r.f9, x ∈ a.f9 ∨ x = ⟨q.fc7, q.fg7 + 1, q.fc6⟩ := fun x hx => by rw [e] at hx; exact List.mem_or_eq_of_mem_set hx
 refine ⟨{ rx := u.1, hs := fun n d k => u.2 n d (h.hs n d k), du := ?_, ps := fun x hx => ?_, cp := ⟨by rw [p.1]; exact h.cp.1, by rw [len]; exact h.cp.2⟩, rb := fun x hx => ?_ }, u.2, len⟩
 ·refine List.nodup_append.2 ⟨h.du, by simp, fun x hx y hy e => ?_⟩
  rw [List.mem_singleton.1 hy] at e
  exact hm (by rw [← e]; exact hx)
 ·rcases mem x hx with g | rfl
  ·exact h.ps x g
  ·exact h.ps q hq
 ·rcases mem x hx with g | rfl
  ·have := h.rb x g; simp only [List.length_append, List.length_cons, List.length_nil]; omega
  ·dsimp only; simp only [List.length_append, List.length_cons, List.length_nil]; omega
theorem Z0v {l m : List Int} (h : l.Nodup) (s : ∀ x ∈ l, x ∈ m) : l.length ≤ m.length := by
 induction l generalizing m with
 | nil => simp
 | cons a t ih =>
  obtain ⟨h1, h2⟩ := List.nodup_cons.1 h
  have am := s a (by simp)
  have := ih (m := m.erase a) h2 fun x hx => (List.mem_erase_of_ne (fun e => h1 (by rw [← e]; exact hx))).2 (s x (by simp [hx]))
  have e := List.length_erase_of_mem am
  have : 0 < m.length := List.length_pos_of_mem am
  simp only [List.length_cons]; omega
theorem Cn.len {pg : List Qn} {l b : List Int} {z : Int} (h : Cn pg l b) (p : ∀ p ∈ pg, (p.fc6.length : Int) ≤ z) : (b.length : Int) ≤ (l.length : Int) * z := by
 induction l generalizing b with
 | nil => cases h; simp
 | cons n l ih =>
  obtain ⟨d, r, ⟨q, hq, _, rfl⟩, h2, rfl⟩ := h
  have := ih h2
  have := p q hq
  simp only [List.length_append, List.length_cons, Int.natCast_add, Int.add_mul]
  omega
theorem Xs.rd {s : Q2} (h : Xs s) (hz : 0 ≤ s.fj.fb6) {o : Qc} {v : Qj} (ho : o ∈ s.fa1) (hv : v ∈ o.fa9) {r : List (List Int)} (p : SdP s.fc1.f9 v.f9 r) : Gb r.flatten ∧ (r.flatten.length : Int) ≤ s.fj.f9 * s.fj.fb6 := by
 obtain ⟨b, b1, b2⟩ := h.go o ho v hv
 rw [p.cn h.rx.nd b1]
 refine ⟨b2, Int.le_trans (b1.len h.ps) (Int.mul_le_mul_of_nonneg_right ?_ hz)⟩
 have := Z0v (h.du o ho v hv) (m := s.fc1.f9.map (·.fc7)) fun n hn => by
  obtain ⟨q, a, b⟩ := h.rx.pr n (.inl (Q23 ho hv hn))
  exact List.mem_map.2 ⟨q, a, b⟩
 rw [List.length_map] at this
 have := h.cp.2
 omega
theorem Qtk {a b : List Int} (ha : bB a) (hb : bB b) (h : (strOfNums a).toList = (strOfNums b).toList) : a = b := by
 have k : ∀ l : List Int, bB l → (l.map fun n => UInt8.ofNat n.toNat).map (fun u => (u.toNat : Int)) = l := fun l hl => by
  rw [List.map_map]
  conv => rhs; rw [← List.map_id l]
  refine List.map_congr_left fun n hn => ?_
  have := hl n hn
  simp only [Function.comp_apply, id, UInt8.toNat_ofNat']
  omega
 rw [← k a ha, ← k b hb]
 have e : (a.map fun n => UInt8.ofNat n.toNat) = b.map fun n => UInt8.ofNat n.toNat := by rw [ByteArray.toList_eq, ByteArray.toList_eq] at h; simpa [strOfNums] using h
 rw [e]
theorem Z0w {p q : Int × Int} : bf p q = true ↔ p.1 < q.1 ∨ (p.1 = q.1 ∧ p.2 < q.2) := by unfold bf; simp
theorem Qfx {p q : Int × Int} : bf p q = false ↔ q.1 < p.1 ∨ (p.1 = q.1 ∧ q.2 ≤ p.2) := by
 rw [← Bool.not_eq_true, Z0w]; omega
def ek (e : Qu) : Int × Int := (e.fid, e.fv.fd0)
def Srt (l : List Qu) : Prop := l.Pairwise fun a b => bf (ek b) (ek a) = false
def Ins (L l : List Qu) (k : Int) : Prop := l.Perm L ∧ ∃ A x B, l = A ++ x :: B ∧ (A.length : Int) = k ∧ Srt (A ++ B) ∧ ∀ b ∈ B, bf (ek b) (ek x) = false
theorem Ins.start {s : List Qu} {e : Qu} (h : Srt s) : Ins (s ++ [e]) (s ++ [e]) s.length := ⟨List.Perm.refl _, s, e, [], rfl, rfl, by simpa using h, by simp⟩
theorem Ins.end0 {L l : List Qu} {k : Int} (h : Ins L l k) (hk : ¬ 0 < k) : Srt l ∧ l.Perm L := by
 obtain ⟨pm, A, x, B, rfl, hA, hs, hb⟩ := h
 have : A = [] := List.eq_nil_of_length_eq_zero (by omega)
 subst this
 exact ⟨List.pairwise_cons.2 ⟨hb, hs⟩, pm⟩
theorem Ins.sp {L l : List Qu} {k : Int} {x y : Qu} (h : Ins L l k) (hk : 0 < k) (hx : l[k.toNat]? = some x) (hy : l[(k - 1).toNat]? = some y) : ∃ A B, l = A ++ [y] ++ x :: B ∧ (A.length : Int) = k - 1 ∧ Srt (A ++ [y] ++ B) ∧ ∀ b ∈ B, bf (ek b) (ek x) = false := by
 obtain ⟨_, A, x', B, rfl, hA, hs, hb⟩ := h
 rcases List.eq_nil_or_concat A with rfl | ⟨A', y', rfl⟩
 ·simp at hA; omega
 ·rw [List.concat_eq_append] at *
  have e1 : k.toNat = A'.length + 1 := by simp at hA; omega
  have e2 : (k - 1).toNat = A'.length := by omega
  rw [e1] at hx
  rw [e2] at hy
  simp at hx hy
  subst hx hy
  exact ⟨A', B, rfl, by simp at hA; omega, hs, hb⟩
theorem Ins.end1 {L l : List Qu} {k : Int} {x y : Qu} (h : Ins L l k) (hk : 0 < k) (hx : l[k.toNat]? = some x) (hy : l[(k - 1).toNat]? = some y) (c : bf (ek x) (ek y) = false) : Srt l ∧ l.Perm L := by
 have pm := h.1
 obtain ⟨A, B, rfl, hA, hs, hb⟩ := h.sp hk hx hy
 refine ⟨?_, pm⟩
 obtain ⟨s1, s2, s3⟩ := List.pairwise_append.1 hs
 obtain ⟨t1, _, t3⟩ := List.pairwise_append.1 s1
 refine List.pairwise_append.2 ⟨s1, List.pairwise_cons.2 ⟨hb, s2⟩, fun a ha z hz => ?_⟩
 rcases List.mem_cons.1 hz with rfl | hz
 ·rcases List.mem_append.1 ha with ha | ha
  ·have := t3 a ha y (by simp)
   rw [Qfx] at this c ⊢; omega
  ·rw [List.mem_singleton.1 ha]; exact c
 ·exact s3 a ha z hz
theorem Ins.step {L l : List Qu} {k : Int} {x y : Qu} (h : Ins L l k) (hk : 0 < k) (hx : l[k.toNat]? = some x) (hy : l[(k - 1).toNat]? = some y) (c : bf (ek x) (ek y) = true) : Ins L ((l.set k.toNat y).set (k - 1).toNat x) (k - 1) := by
 have pm := h.1
 obtain ⟨A, B, rfl, hA, hs, hb⟩ := h.sp hk hx hy
 have e1 : k.toNat = A.length + 1 := by omega
 have e2 : (k - 1).toNat = A.length := by omega
 have e : ((A ++ [y] ++ x :: B).set k.toNat y).set (k - 1).toNat x = A ++ x :: ([y] ++ B) := by rw [e1, e2]; simp [List.set_append]
 rw [e]
 refine ⟨List.Perm.trans ?_ pm, A, x, [y] ++ B, rfl, hA, by simpa using hs, MN ?_ hb⟩
 ·have := (List.Perm.swap y x B).append_left A
  simpa using this
 ·rw [Z0w] at c; rw [Qfx]; omega
theorem Qlr {os : List Qc} {i : Nat} {o : Qc} (h : os[i]? = some o) : Ss (os.take (i + 1)) = Ss (os.take i) ++ o.fa9.map fun v => (o.fID, v.fd0) := by
 unfold Ss
 rw [List.take_add_one, h, List.flatMap_append]; simp
theorem Z0x {os : List Qc} {l : List Qu} {a b : QE} {i n : Nat} {x y : Qu} (hp : (l.map ek).Perm (Ss os)) (hs : Srt l) (hx : l[i]? = some x) (hxa : bf (ek x) (a.fb7, a.fd0) = false) (hn : 0 < n) (hy : l[i + n - 1]? = some y) (hb : b.fb7 = y.fid ∧ y.fv.fd0 < b.fd0) : EF os b + n ≤ EF os a := by
 have xb := (List.getElem?_eq_some_iff.1 hx).1
 have yb := (List.getElem?_eq_some_iff.1 hy).1
 have le : ∀ (j k : Nat) u v, l[j]? = some u → l[k]? = some v → j ≤ k → bf (ek v) (ek u) = false := fun j k u v hj hk h => by
  obtain ⟨j1, j2⟩ := List.getElem?_eq_some_iff.1 hj
  obtain ⟨k1, k2⟩ := List.getElem?_eq_some_iff.1 hk
  rcases Nat.lt_or_ge j k with g | g
  ·have := List.pairwise_iff_getElem.1 hs j k j1 k1 g
   rw [j2, k2] at this; exact this
  ·have : j = k := by omega
   subst this
   rw [hj] at hk; cases hk
   rw [Qfx]; omega
 have ca : (l.drop i).length ≤ EF os a := by
  unfold EF
  rw [← hp.countP_eq, ← List.take_append_drop i l, List.map_append, List.countP_append]
  have : (List.map ek (l.drop i)).countP (fun p => !bf p (a.fb7, a.fd0)) = (List.map ek (l.drop i)).length := by
   rw [List.countP_eq_length]
   intro p hp
   obtain ⟨u, hu, rfl⟩ := List.mem_map.1 hp
   obtain ⟨j, hj⟩ := List.getElem?_of_mem hu
   rw [List.getElem?_drop] at hj
   have := le i (i + j) x u hx hj (by omega)
   rw [Qfx] at this hxa
   have : bf (ek u) (a.fb7, a.fd0) = false := by rw [Qfx]; dsimp only at hxa ⊢; omega
   rw [this]; rfl
  rw [this, List.length_map, List.take_append_drop]; omega
 have cb : EF os b ≤ (l.drop (i + n)).length := by
  unfold EF
  rw [← hp.countP_eq, ← List.take_append_drop (i + n) l, List.map_append, List.countP_append]
  have : (List.map ek (l.take (i + n))).countP (fun p => !bf p (b.fb7, b.fd0)) = 0 := by
   rw [List.countP_eq_zero]
   intro p hp
   obtain ⟨u, hu, rfl⟩ := List.mem_map.1 hp
   obtain ⟨j, hj⟩ := List.getElem?_of_mem hu
   have jb := (List.getElem?_eq_some_iff.1 hj).1
   rw [List.length_take] at jb
   rw [List.getElem?_take, if_pos (by omega)] at hj
   have := le j (i + n - 1) u y hj hy (by omega)
   rw [Qfx] at this
   have : bf (ek u) (b.fb7, b.fd0) = true := by rw [Z0w]; unfold ek at *; dsimp only at *; omega
   rw [this]; simp
  rw [this, List.take_append_drop]
  have := List.countP_le_length (p := fun p => !bf p (b.fb7, b.fd0)) (l := List.map ek (l.drop (i + n)))
  rw [List.length_map] at this; omega
 rw [List.length_drop] at ca cb
 omega
structure Xr (s : Q2) (os : List Qc) (ns : List Int) (cap : Int) (pg : List Qn) : Prop where
 rx : RX os ns pg
 hs : ∀ n d, n ∈ LA os ∨ n ∈ ns → Has s.fc1.f9 n d → Has pg n d
 ps : ∀ p ∈ pg, (p.fc6.length : Int) ≤ s.fj.fb6
 cp : cap = s.fj.f9 ∧ (pg.length : Int) ≤ s.fj.f9
 rb : ∀ p ∈ pg, p.fg7 ≤ 2000000 * (s.f7 + 1)
theorem Xr.start {s : Q2} (h : Xs s) {os : List Qc} {ns : List Int} (e : ∀ n, (LA os).count n + ns.count n ≤ (LA s.fa1).count n) : Xr s os ns s.fc1.fc2 s.fc1.f9 := { rx := h.rx.of_cnt fun n => by have := e n; simpa using this, hs := fun _ _ _ k => k, ps := h.ps, cp := h.cp, rb := h.rb }
theorem Xr.rel {s : Q2} {os : List Qc} {n : Int} {ns : List Int} {a r : Qq} (h : Xr s os (n :: ns) a.fc2 a.f9) (p : ReP a n r) (hc : 0 ≤ s.f7 ∧ s.f7 ≤ 2000000) : Xr s os ns r.fc2 r.f9 := by
 obtain ⟨q, hq, rfl⟩ := h.rx.pr n (.inr (by simp))
 obtain ⟨i, hi⟩ := List.getElem?_of_mem hq
 have rf := h.rx.rf q hq
 have rb := h.rb q hq
 have c1 : (q.fc7 :: ns).count q.fc7 = ns.count q.fc7 + 1 := by simp
 have c2 : ∀ m : Int, m ≠ q.fc7 → ns.count m = (q.fc7 :: ns).count m := fun m hm => by
  have : (q.fc7 == m) = false := by simpa using Ne.symm hm
  rw [List.count_cons]; simp [this]
 obtain ⟨e1, e2⟩ := p.2 i q hi rfl h.rx.nd (by omega) (by omega)
 by_cases g : 1 < q.fg7
 ·have e := e1 g
  have u := h.rx.upd (k := -1) (ns' := ns) hi (by omega) c2
  rw [← e] at u
  have mem : ∀ x ∈ r.f9, x ∈ a.f9 ∨ x = ⟨q.fc7, q.fg7 + -1, q.fc6⟩ := fun x hx => by rw [e] at hx; exact List.mem_or_eq_of_mem_set hx
  refine { rx := u.1, hs := fun m d k l => u.2 m d (h.hs m d (k.imp id fun k => List.mem_cons_of_mem _ k) l), ps := fun x hx => ?_, cp := ⟨by rw [p.1]; exact h.cp.1, by rw [e, List.length_set]; exact h.cp.2⟩, rb := fun x hx => ?_ }
  ·rcases mem x hx with g | rfl
   ·exact h.ps x g
   ·exact h.ps q hq
  ·rcases mem x hx with g | rfl
   ·exact h.rb x g
   ·dsimp only; omega
 ·have e := e2 (by omega)
  have u := h.rx.del (ns' := ns) hi c1 c2 (by omega)
  rw [← e] at u
  have sub : r.f9.Sublist a.f9 := by rw [e]; exact List.eraseIdx_sublist _ _
  refine { rx := u.1, hs := fun m d k l => u.2 m d ?_ (h.hs m d (k.imp id fun k => List.mem_cons_of_mem _ k) l), ps := fun x hx => h.ps x (sub.subset hx), cp := ⟨by rw [p.1]; exact h.cp.1, by have := sub.length_le; have := h.cp.2; omega⟩, rb := fun x hx => h.rb x (sub.subset hx) }
  rintro rfl
  rcases k with k | k
  ·have := List.count_pos_iff.2 k; omega
  ·have := List.count_pos_iff.2 k; omega
theorem Xs.remove {s : Q2} (h : Xs s) {os : List Qc} {cap : Int} {pg : List Qn} (src : ∀ q ∈ os, ∃ p ∈ s.fa1, q.fa9.Sublist p.fa9) (nl : (vsO os).length ≤ (vsO s.fa1).length) (r : Xr s os [] cap pg) : Xs { s with fa1 := os, fc1 := ⟨cap, pg⟩ } := by
 refine { rx := r.rx, go := fun q hq u hu => ?_, du := fun q hq u hu => ?_, vf := fun q hq u hu => ?_, ps := r.ps, cp := r.cp, rb := r.rb, nv := by have := h.nv; dsimp only; omega }
 ·obtain ⟨p, p1, p2⟩ := src q hq
  obtain ⟨b, b1, b2⟩ := h.go p p1 u (p2.subset hu)
  exact ⟨b, b1.mono fun n hn d => r.hs n d (.inl (Q23 hq hu hn)), b2⟩
 ·obtain ⟨p, p1, p2⟩ := src q hq
  exact h.du p p1 u (p2.subset hu)
 ·obtain ⟨p, p1, p2⟩ := src q hq
  exact h.vf p p1 u (p2.subset hu)
theorem Qtl {s : Q2} {k : Nat} {o : Qc} {x y : List Qj} {v : Qj} {os : List Qc} (ho : s.fa1[k]? = some o) (hv : o.fa9 = x ++ v :: y) (hos : os = s.fa1.set k ⟨o.fID, x ++ y⟩ ∨ (x ++ y = [] ∧ os = s.fa1.eraseIdx k)) : (∀ q ∈ os, ∃ p ∈ s.fa1, q.fa9.Sublist p.fa9) ∧ (vsO os).length ≤ (vsO s.fa1).length ∧ (∀ n, (LA os).count n + v.f9.count n ≤ (LA s.fa1).count n) ∧ ∀ a, EF os a ≤ EF s.fa1 a := by
 have om := List.mem_of_getElem? ho
 have sub : (x ++ y).Sublist o.fa9 := by rw [hv]; exact List.Sublist.append (List.Sublist.refl _) (List.sublist_cons_self _ _)
 have cnt : ∀ n, (nsV (x ++ y)).count n + v.f9.count n = (nsV o.fa9).count n := fun n => by
  rw [hv, Qds, Qds]; simp only [nsV, List.flatMap_cons, List.count_append]; omega
 have sub2 := fun q : Int × Int → Bool => (sub.map fun v => (o.fID, v.fd0)).countP_le (p := q)
 rcases hos with rfl | ⟨e, rfl⟩
 ·refine ⟨XS (fun q hq => ⟨q, hq, List.Sublist.refl _⟩) ⟨o, om, sub⟩, ?_, fun n => ?_, fun a => ?_⟩
  ·have := Qdt (o' := ⟨o.fID, x ++ y⟩) ho
   have := sub.length_le
   dsimp only at *; omega
  ·have := Ph (o' := ⟨o.fID, x ++ y⟩) ho n
   have := cnt n
   dsimp only at *; omega
  ·have := Qlq (f := fun o => o.fa9.map fun v => (o.fID, v.fd0)) (fun p => !bf p (a.fb7, a.fd0)) (o' := ⟨o.fID, x ++ y⟩) ho
   have := sub2 (fun p => !bf p (a.fb7, a.fd0))
   unfold EF Ss; dsimp only at *; omega
 ·refine ⟨fun q hq => ⟨q, (List.eraseIdx_sublist _ _).subset hq, List.Sublist.refl _⟩, ?_, fun n => ?_, fun a => ?_⟩
  ·have := Qtj ho; omega
  ·have := Q22 ho n
   have := cnt n
   rw [e] at this
   simp only [nsV, List.flatMap_nil, List.count_nil] at this ⊢
   unfold nsV at *
   omega
  ·have := Z0u (f := fun o => o.fa9.map fun v => (o.fID, v.fd0)) (fun p => !bf p (a.fb7, a.fd0)) ho
   unfold EF Ss; omega
def Q0p (f t c : Int) : Bool := decide (f ≤ c) && (decide (c < t) || t == 0)
def bnF (s : ByteArray) (c : Int) (b : Qp) : Bool := b.fd4.toList == s.toList && Q0p b.fd0 b.fTo c
def veF (c : Int) (v : Qj) : Bool := Q0p v.fd0 v.fTo c
def obF (id : Int) (o : Qc) : Bool := o.fID == id
def view (s : Q2) (name : ByteArray) (c : Int) : Option (Int × Qj) :=
 (s.fb4.find? (bnF name c)).bind fun b => (s.fa1.find? (obF b.fb7)).bind fun o => (o.fa9.find? (veF c)).map fun v => (o.fID, v)
theorem Qtm {α : Type} {l : List α} {f : α → Bool} {j : Nat} {x : α} (h : ∀ y ∈ l.take j, f y = false) (hx : l[j]? = some x) (hf : f x = true) : l.find? f = some x := by
 obtain ⟨hj, e⟩ := List.getElem?_eq_some_iff.1 hx
 have : l = l.take j ++ x :: l.drop (j + 1) := by rw [← e, List.getElem_cons_drop, List.take_append_drop]
 rw [this, List.find?_append, List.find?_eq_none.2 (fun y hy => by rw [h y hy]; simp)]
 simp [hf]
theorem Qtn {α : Type} {l : List α} {f : α → Bool} (h : ∀ y ∈ l.take l.length, f y = false) : l.find? f = none := by
 rw [List.take_length] at h
 exact List.find?_eq_none.2 fun y hy => by rw [h y hy]; simp
theorem Qto {α : Type} {l : List α} {f : α → Bool} {j : Nat} {x : α} (h : ∀ y ∈ l.take j, f y = false) (hx : l[j]? = some x) (hf : f x = false) : ∀ y ∈ l.take (j + 1), f y = false := by
 rw [List.take_add_one, hx]
 intro y hy
 rcases List.mem_append.1 hy with hy | hy
 ·exact h y hy
 ·simp at hy; subst hy; exact hf
theorem Qb2 {α : Type} {l : List α} (hl : l.length ≤ 4611686018427387904) (f : α → Bool) {B : (Int → Prop) → Int → Prop} {J : Prop}
  (hB : ∀ (j : Nat) x, l[j]? = some x → ix l (j : Int) x → (f x = true → l.find? f = some x) → ∀ X : Int → Prop, (f x = false → X (IntKind.i64.wrap ((j : Int) + 1))) → B X (j : Int)) (hJ : l.find? f = none → J) :
  lp (fun X s => ct (decide (s < (l.length : Int))) (B X s) J) 0 := by
 refine Bp (I := fun n s => ∃ j : Nat, s = (j : Int) ∧ j ≤ l.length ∧ n = l.length - j ∧ ∀ y ∈ l.take j, f y = false) ?_ (k := l.length) ⟨0, rfl, by omega, by omega, by simp⟩
 rintro n s ⟨j, rfl, hj, hn, hi⟩ X hX
 refine ⟨fun c => ?_, fun c => ?_⟩
 ·have hj2 : j < l.length := by simpa using c
  have hx : l[j]? = some l[j] := by simp [hj2]
  refine hB j l[j] hx (G3 hj2) (Qtm hi hx) X fun hf => ?_
  rw [Za (by omega)]
  exact hX (l.length - (j + 1)) _ (by omega) ⟨j + 1, by simp, by omega, rfl, Qto hi hx hf⟩
 ·have : j = l.length := by simp at c; omega
  subst this
  exact hJ (Qtn hi)
structure Sv (s : Q2) : Prop where
 bt : ∀ b ∈ s.fb4, b.fTo = 0 ∨ b.fTo ≤ s.f7
 vt : ∀ o ∈ s.fa1, ∀ v ∈ o.fa9, v.fTo = 0 ∨ v.fTo ≤ s.f7
 id : s.fa1.Pairwise fun a b => a.fID ≠ b.fID
 la : ∀ o ∈ s.fa1, o.fID ≤ s.ff4
 l0 : 0 ≤ s.ff4
 lc : s.ff4 ≤ s.f7
structure Kp (s t : Q2) : Prop where
 c : t.f7 = s.f7
 g : t.fj = s.fj
 v : ∀ n, view t n t.f7 = view s n s.f7
 mo : ∀ a, EF t.fa1 a ≤ EF s.fa1 a
theorem Kp.refl (s : Q2) : Kp s s := ⟨rfl, rfl, fun _ => rfl, fun _ => Nat.le_refl _⟩
theorem Kp.trans {s t u : Q2} (h : Kp s t) (k : Kp t u) : Kp s u := ⟨k.c.trans h.c, k.g.trans h.g, fun n => (k.v n).trans (h.v n), fun a => Nat.le_trans (k.mo a) (h.mo a)⟩
theorem Kp.of {s t : Q2} (h1 : t.f7 = s.f7) (h2 : t.fj = s.fj) (h3 : t.fb4 = s.fb4) (h4 : t.fa1 = s.fa1) : Kp s t := ⟨h1, h2, fun n => by unfold view; rw [h1, h3, h4], fun a => by rw [h4]; exact Nat.le_refl _⟩
theorem Sv.of {s t : Q2} (h : Sv s) (h1 : t.f7 = s.f7) (h3 : t.fb4 = s.fb4) (h4 : t.fa1 = s.fa1) (h5 : t.ff4 = s.ff4) : Sv t := { bt := by rw [h1, h3]; exact h.bt, vt := by rw [h1, h4]; exact h.vt, id := by rw [h4]; exact h.id, la := by rw [h4, h5]; exact h.la, l0 := by rw [h5]; exact h.l0, lc := by rw [h1, h5]; exact h.lc }
theorem Oh {α : Type} {l m : List α} {f q : α → Bool} (h : l.filter q = m.filter q) (hl : ∀ x ∈ l, f x = true → q x = true) (hm : ∀ x ∈ m, f x = true → q x = true) : l.find? f = m.find? f := by
 have key : ∀ (l : List α), (∀ x ∈ l, f x = true → q x = true) → l.find? f = (l.filter q).find? f := by
  intro l hl
  rw [List.find?_filter]
  induction l with
  | nil => rfl
  | cons a l ih =>
   simp only [List.find?_cons]
   have ha := hl a (by simp)
   have := ih fun x hx => hl x (by simp [hx])
   cases hf : f a with
   | true => simp [ha hf]
   | false => simpa using this
 rw [key l hl, key m hm, h]
def LG (b : Qp) : Bool := b.fTo == 0
def Q24 (v : Qj) : Bool := v.fTo == 0
theorem Qdv {s : Q2} (h : ∀ b ∈ s.fb4, b.fTo = 0 ∨ b.fTo ≤ s.f7) {n : ByteArray} {b : Qp} (hb : b ∈ s.fb4) (hf : bnF n s.f7 b = true) : LG b = true := by
 unfold bnF Q0p at hf
 unfold LG
 simp only [Bool.and_eq_true, Bool.or_eq_true, decide_eq_true_eq, beq_iff_eq] at hf ⊢
 rcases h b hb with h | h
 ·exact h
 ·rcases hf.2.2 with k | k
  ·omega
  ·exact k
theorem Qdw {c : Int} {l : List Qj} (h : ∀ v ∈ l, v.fTo = 0 ∨ v.fTo ≤ c) {v : Qj} (hv : v ∈ l) (hf : veF c v = true) : Q24 v = true := by
 unfold veF Q0p at hf
 unfold Q24
 simp only [Bool.and_eq_true, Bool.or_eq_true, decide_eq_true_eq, beq_iff_eq] at hf ⊢
 rcases h v hv with h | h
 ·exact h
 ·rcases hf.2 with k | k
  ·omega
  ·exact k
theorem Qls {s : Q2} (h : Sv s) {l : List Qp} (hm : ∀ b ∈ l, b ∈ s.fb4) (hf : l.filter LG = s.fb4.filter LG) : Kp s { s with fb4 := l } ∧ Sv { s with fb4 := l } := by
 refine ⟨⟨rfl, rfl, fun n => ?_, fun _ => Nat.le_refl _⟩, { bt := fun b hb => h.bt b (hm b hb), vt := h.vt, id := h.id, la := h.la, l0 := h.l0, lc := h.lc }⟩
 unfold view
 dsimp only
 rw [Oh (q := LG) (m := s.fb4) hf (fun x hx e => Qdv h.bt (hm x hx) e) (fun x hx e => Qdv h.bt hx e)]
theorem Q6n {l : List Qc} {i : Nat} {o o' : Qc} (ho : l[i]? = some o) (he : o'.fID = o.fID) (id : Int) (hd : l.Pairwise fun a b => a.fID ≠ b.fID) : (l.set i o').find? (obF id) = (if o.fID = id then some o' else l.find? (obF id)) := by
 induction l generalizing i with
 | nil => simp at ho
 | cons a l ih =>
  cases i with
  | zero =>
   simp at ho; subst ho
   simp only [List.set_cons_zero, List.find?_cons, obF, he]
   by_cases e : a.fID = id
   ·simp [e]
   ·have e2 : (a.fID == id) = false := by simpa using e
    simp [e2, e]
  | succ i =>
   simp only [List.getElem?_cons_succ] at ho
   have hd' := List.pairwise_cons.1 hd
   have ne : a.fID ≠ o.fID := hd'.1 o (List.mem_of_getElem? ho)
   simp only [List.set_cons_succ, List.find?_cons, obF]
   have := ih ho hd'.2
   by_cases e : a.fID = id
   ·have e2 : ¬ o.fID = id := fun h => ne (by rw [e, h])
    simp [e, e2]
   ·have e2 : (a.fID == id) = false := by simpa using e
    simp only [e2]
    exact this
theorem Qlt {l : List Qc} {i : Nat} {o : Qc} (ho : l[i]? = some o) (id : Int) (hd : l.Pairwise fun a b => a.fID ≠ b.fID) : (l.eraseIdx i).find? (obF id) = (if o.fID = id then none else l.find? (obF id)) := by
 induction l generalizing i with
 | nil => simp at ho
 | cons a l ih =>
  have hd' := List.pairwise_cons.1 hd
  cases i with
  | zero =>
   simp at ho; subst ho
   simp only [List.eraseIdx_cons_zero, List.find?_cons, obF]
   by_cases e : a.fID = id
   ·simp only [e, if_true]
    exact List.find?_eq_none.2 fun x hx => by
     have := hd'.1 x hx
     unfold obF
     simp only [beq_iff_eq]
     exact fun h => this (by rw [e, h])
   ·have e2 : (a.fID == id) = false := by simpa using e
    simp [e2, e]
  | succ i =>
   simp only [List.getElem?_cons_succ] at ho
   have ne : a.fID ≠ o.fID := hd'.1 o (List.mem_of_getElem? ho)
   simp only [List.eraseIdx_cons_succ, List.find?_cons, obF]
   have := ih ho hd'.2
   by_cases e : a.fID = id
   ·have e2 : ¬ o.fID = id := fun h => ne (by rw [e, h])
    simp [e, e2]
   ·have e2 : (a.fID == id) = false := by simpa using e
    simp only [e2]
    exact this
theorem Qtp {bs : List Qp} {os os' : List Qc} {c : Int} (h : ∀ id, (os'.find? (obF id)).bind (fun o => (o.fa9.find? (veF c)).map fun v => (o.fID, v)) = (os.find? (obF id)).bind (fun o => (o.fa9.find? (veF c)).map fun v => (o.fID, v))) (n : ByteArray) : (bs.find? (bnF n c)).bind (fun b => (os'.find? (obF b.fb7)).bind fun o => (o.fa9.find? (veF c)).map fun v => (o.fID, v)) = (bs.find? (bnF n c)).bind (fun b => (os.find? (obF b.fb7)).bind fun o => (o.fa9.find? (veF c)).map fun v => (o.fID, v)) := by
 cases bs.find? (bnF n c) with
 | none => rfl
 | some b => exact h b.fb7
theorem Qb3 {l : List Qc} {i : Nat} {o o' : Qc} (ho : l[i]? = some o) (he : o'.fID = o.fID) (hd : l.Pairwise fun a b => a.fID ≠ b.fID) : (l.set i o').Pairwise fun a b => a.fID ≠ b.fID := by
 have e : (l.set i o').map (·.fID) = l.map (·.fID) := by
  rw [List.map_set, he]
  apply List.ext_getElem?
  intro k
  rw [List.getElem?_set]
  split
  ·rename_i hk
   subst hk
   simp [ho]
   exact (List.getElem?_eq_some_iff.1 ho).1
  ·rfl
 have hd2 : (l.map (·.fID)).Pairwise (· ≠ ·) := List.pairwise_map.2 hd
 rw [← e] at hd2
 exact List.pairwise_map.1 hd2
theorem Qfy {s : Q2} (h : Sv s) {i : Nat} {o : Qc} (ho : s.fa1[i]? = some o) {l : List Qj} (hm : ∀ v ∈ l, v ∈ o.fa9) (hf : l.filter Q24 = o.fa9.filter Q24) {ar : Qq} {os : List Qc} (hos : os = s.fa1.set i (Qc.mk o.fID l) ∨ (l = [] ∧ os = s.fa1.eraseIdx i)) (hk : ∀ a, EF os a ≤ EF s.fa1 a) : Kp s { s with fa1 := os, fc1 := ar } ∧ Sv { s with fa1 := os, fc1 := ar } := by
 have hob := List.mem_of_getElem? ho
 have hv : l.find? (veF s.f7) = o.fa9.find? (veF s.f7) := Oh (q := Q24) hf (fun x hx e => Qdw (h.vt o hob) (hm x hx) e) (fun x hx e => Qdw (h.vt o hob) hx e)
 refine ⟨⟨rfl, rfl, fun n => Qtp (fun id => ?_) n, hk⟩, ?_⟩
 ·have fo : o.fID = id → s.fa1.find? (obF id) = some o := by
   intro e
   have := Q6n (o' := o) ho rfl id h.id
   rw [if_pos e] at this
   rw [← this]
   congr 1
   apply List.ext_getElem?
   intro k
   rw [List.getElem?_set]
   split
   ·rename_i hk; subst hk; simp [ho]; exact (List.getElem?_eq_some_iff.1 ho).1
   ·rfl
  rcases hos with rfl | ⟨rfl, rfl⟩
  ·rw [Q6n (o' := Qc.mk o.fID l) ho rfl id h.id]
   by_cases e : o.fID = id
   ·rw [if_pos e, fo e]
    simp only [Option.bind_some]
    rw [hv]
   ·rw [if_neg e]
  ·rw [Qlt ho id h.id]
   by_cases e : o.fID = id
   ·rw [if_pos e, fo e]
    simp only [Option.bind_some, Option.bind_none]
    rw [← hv]; rfl
   ·rw [if_neg e]
 ·rcases hos with rfl | ⟨rfl, rfl⟩
  ·exact { bt := h.bt, vt := XS h.vt (fun v hv => h.vt o hob v (hm v hv)), id := Qb3 ho rfl h.id, la := XS h.la (h.la o hob), l0 := h.l0, lc := h.lc }
  ·have sub : (s.fa1.eraseIdx i).Sublist s.fa1 := List.eraseIdx_sublist _ _
   exact { bt := h.bt, vt := fun x hx => h.vt x (sub.subset hx), id := h.id.sublist sub, la := fun x hx => h.la x (sub.subset hx), l0 := h.l0, lc := h.lc }
def KS (s t : Q2) : Prop := Sv s → Kp s t ∧ Sv t
theorem KS.refl (s : Q2) : KS s s := fun h => ⟨Kp.refl _, h⟩
theorem KS.trans {s t u : Q2} (h : KS s t) (k : KS t u) : KS s u := fun x => ⟨(h x).1.trans (k (h x).2).1, (k (h x).2).2⟩
theorem ks_ {s t : Q2} (h : KS s t) : KS s t := h
def Shw (s : Q2) (ns : List ByteArray) (vs : List Int) : Prop := vs.length = ns.length ∧ ∀ (i : Nat) n v, ns[i]? = some n → vs[i]? = some v → ∃ p, view s n s.f7 = some p ∧ v = p.2.fd0
def VerP (s : Q2) (n : ByteArray) (c : Int) (r : Int × Int × Int) : Prop := c = s.f7 → (view s n c = none ∧ r.2.2 ≠ 0) ∨ ∃ p, view s n c = some p ∧ r.2.1 = p.2.fd0 ∧ r.2.2 = 0
def MO (s : Q2) (l : List ByteArray) (i : Int) (vs : List Int) : Prop := Shw s (l.take i.toNat) vs
theorem MO.nil {s : Q2} {l : List ByteArray} : MO s l 0 [] := ⟨by simp, fun i n v h => by simp at h⟩
theorem MO.fin {s : Q2} {l : List ByteArray} {i : Int} {vs : List Int} (h : MO s l i vs) (k : (l.length : Int) ≤ i) : Shw s l vs := by
 unfold MO at h; rwa [List.take_of_length_le (by omega)] at h
theorem MO.app {s : Q2} {l : List ByteArray} {i : Int} {vs : List Int} {n : ByteArray} {r : Int × Int × Int} (h : MO s l i vs) (h0 : 0 ≤ i) (hn : l[i.toNat]? = some n) (hv : VerP s n s.f7 r) (he : r.2.2 = 0) (hi : i ≤ 2000000) : MO s l (IntKind.i64.wrap (i + 1)) (vs ++ [r.2.1]) := by
 rw [Za (by omega)]
 have e : (i + 1).toNat = i.toNat + 1 := by omega
 have hb := (List.getElem?_eq_some_iff.1 hn).1
 have hl : vs.length = i.toNat := by have := h.1; rw [List.length_take] at this; omega
 unfold MO
 rw [e, List.take_add_one, hn]
 refine ⟨by simp [hl]; omega, fun k m v h1 h2 => ?_⟩
 have kb : k < vs.length + 1 := by have := (List.getElem?_eq_some_iff.1 h2).1; simpa using this
 by_cases hk : k < vs.length
 ·rw [List.getElem?_append_left hk] at h2
  rw [List.getElem?_append_left (by rw [List.length_take]; omega)] at h1
  exact h.2 k m v h1 h2
 ·have ke : k = vs.length := by omega
  subst ke
  rw [List.getElem?_append_right (by rw [List.length_take]; omega)] at h1
  rw [List.getElem?_append_right (by omega)] at h2
  rw [List.length_take] at h1
  have z : vs.length - min i.toNat l.length = 0 := by omega
  rw [z] at h1
  simp at h1 h2
  subst h1 h2
  rcases hv rfl with ⟨_, c⟩ | ⟨q, a, b, _⟩
  ·exact absurd he c
  ·exact ⟨q, a, b⟩
theorem Shw.kp {s t : Q2} {ns : List ByteArray} {vs : List Int} (h : Shw s ns vs) (k : Kp s t) : Shw t ns vs := ⟨h.1, fun i n v h1 h2 => let ⟨p, a, b⟩ := h.2 i n v h1 h2; ⟨p, (k.v n).trans a, b⟩⟩
def Mo (s t : Q2) : Prop := s.f7 < t.f7 ∧ ∀ a, (EF t.fa1 a : Int) + s.f7 ≤ EF s.fa1 a + t.f7
theorem Mo.of {s t : Q2} {c : Int} {ns : List Int} (h : Ob c ns s.fa1 t.fa1) (e : t.f7 = s.f7 + 1) : Mo s t := ⟨by omega, fun a => by have := h.kc (fun p => !bf p (a.fb7, a.fd0)); unfold EF; omega⟩
def KE (s t : Q2) : Prop := (Sv s → Sv t) ∧ t.fj = s.fj ∧ (t = s ∨ Mo s t)
theorem KE.i {s t : Q2} (h : Sv s → Sv t) (g : t.fj = s.fj) (d : t = s ∨ Mo s t) : KE s t := ⟨h, g, d⟩
def VJ (s : Q2) (r : Qi) : Prop := Sv s → r.fx.fj = s.fj ∧ Sv r.fx ∧ (r.fg3 = false → Kp s r.fx) ∧ (Kp s r.fx ∨ Mo s r.fx)
theorem VJ.on {s t : Q2} {r : Qi} (e : r.fx = t) (h : Sv s → Kp s t ∧ Sv t) : VJ s r := fun hs => ⟨by rw [e]; exact (h hs).1.g, by rw [e]; exact (h hs).2, fun _ => by rw [e]; exact (h hs).1, .inl (by rw [e]; exact (h hs).1)⟩
def stq (p : Int × Int × Int × Int × Int × Int × Int × Int × Int × (List Qc) × (List Qp) × (List QN) × Int × (List Qn)) : Q2 := (Q2.mk (Qz.mk (p.1) (p.2.1) (p.2.2.1) (p.2.2.2.1) (p.2.2.2.2.1) (p.2.2.2.2.2.1) (p.2.2.2.2.2.2.1)) (p.2.2.2.2.2.2.2.1) (p.2.2.2.2.2.2.2.2.1) (p.2.2.2.2.2.2.2.2.2.1) (p.2.2.2.2.2.2.2.2.2.2.1) (p.2.2.2.2.2.2.2.2.2.2.2.1) (Qq.mk (p.2.2.2.2.2.2.2.2.2.2.2.2.1) (p.2.2.2.2.2.2.2.2.2.2.2.2.2)))
def LfO (m : Qb) : Prop := 0 ≤ m.fd7 ∧ m.fd7 ≤ 200000000
def BtP (s : Q2) (c : Int) (nm : List ByteArray) (n : Int) (m : Qb) (r : Qi) : Prop :=
 (m.fc5 = 0 → r.fg3 = false → r.fa.fc5 = 1 ∧ (0 ≤ r.fa.fd7 ∧ r.fa.fd7 ≤ n) ∧ r.fa.fg5 = s.f7 ∧ Shw s nm r.fa.fa9) ∧
 (m.fc5 = 1 → LfO m → r.fg3 = false ∧ r.fa.fg5 = m.fg5 ∧ r.fa.fa9 = m.fa9 ∧ r.fa.fd7 = max (m.fd7 - max c 1) 0 ∧ r.fa.fc5 = (if r.fa.fd7 = 0 then 2 else 1)) ∧
 (m.fc5 ≠ 0 → m.fc5 ≠ 1 → (Shw s nm m.fa9 → r.fg3 = true) ∧ (r.fg3 = false → r.fa.fc5 = 0))
def clF (n p : Int) : Int := if n < 0 ∨ p < 1 then 0 else if n.tmod p > 0 then IntKind.i64.wrap (IntKind.i64.wrap (n.tdiv p) + 1) else IntKind.i64.wrap (n.tdiv p)
def Pi (n p : Int) : Int := if (n < 0 ∨ p < 1) ∨ p > 1024 then 0 else clF n p
theorem pgF_b {n p z : Int} (h0 : 0 ≤ n) (hp : 0 ≤ p) (hz : 8 ≤ z ∧ z ≤ 1024) (hn : n ≤ p * z + 20) (hb : n ≤ 100000000) : 0 ≤ Pi n z ∧ Pi n z ≤ p + 4 := by
 have e1 : n.tdiv z = n / z := Int.tdiv_eq_ediv_of_nonneg h0
 have q : n / z < p + 3 := Int.ediv_lt_of_lt_mul (by omega) (by rw [Int.add_mul]; omega)
 have q0 : 0 ≤ n / z := Int.ediv_nonneg h0 (by omega)
 have qb : n / z ≤ n := Int.ediv_le_self _ h0
 unfold Pi clF
 rw [if_neg (by omega), if_neg (by omega), e1, Za (n := n / z) (by omega), Za (by omega)]
 split <;> omega
def ImP (c : Qz) (n : Int) (m : Qb) (r : Qi) : Prop :=
 (m.fc5 = 0 → r.fg3 = false → r.fa.fc5 = 1 ∧ r.fa.fd7 = Pi n c.fb6) ∧
 (m.fc5 = 1 → LfO m → r.fg3 = false → (r.fa.fc5 = 1 ∧ 0 < r.fa.fd7 ∧ r.fa.fd7 = m.fd7 - max c.fb0 1) ∨ r.fa.fc5 = 2) ∧
 (m.fc5 ≠ 0 → m.fc5 ≠ 1 → r.fg3 = true)
def OpP (c n : Int) (m : Qb) (r : Qi) : Prop :=
 (m.fc5 = 0 → r.fg3 = false → r.fa.fc5 = 1 ∧ 0 ≤ r.fa.fd7 ∧ r.fa.fd7 ≤ n) ∧
 (m.fc5 ≠ 0 → LfO m → r.fg3 = false → r.fa.fc5 = m.fc5 ∧ 0 < r.fa.fd7 ∧ r.fa.fd7 = m.fd7 - max c 1)
def StP (s : Q2) (x : Q6) (r : Qi) : Prop :=
 (x.fOp.fa0 = 6 → BtP s s.fj.fb0 [x.fOp.fd4] (x.fOp.fb3.length : Int) x.fa r) ∧
 (x.fOp.fa0 = 7 ∨ x.fOp.fa0 = 8 → BtP s s.fj.fb0 [x.fOp.fd4, x.fOp.fg] 372 x.fa r) ∧
 (x.fOp.fa0 = 8 → x.fa.fc5 ≠ 0 → x.fa.fc5 ≠ 1 → r.fg3 = true) ∧
 (x.fOp.fa0 = 9 → OpP s.fj.fb0 (x.fOp.fb8.length : Int) x.fa r) ∧
 (x.fOp.fa0 = 15 → OpP s.fj.fb0 (s.fj.f9 + 4) x.fa r) ∧
 (x.fOp.fa0 = 16 → ImP s.fj (x.fOp.fc6.length : Int) x.fa r) ∧
 (x.fOp.fa0 = 17 → r.fg3 = false → (EF r.fx.fa1 r.fa.fAt : Int) + s.fj.fb0 ≤ EF s.fa1 x.fa.fAt) ∧
 (x.fOp.fa0 ≠ 6 → x.fOp.fa0 ≠ 7 → x.fOp.fa0 ≠ 8 → x.fOp.fa0 ≠ 9 → x.fOp.fa0 ≠ 15 → x.fOp.fa0 ≠ 16 → x.fOp.fa0 ≠ 17 → r.fg3 = true)
def LfI (m : Qb) (c i l : Int) : Prop := LfO m → l = m.fd7 - i ∧ i ≤ max c 1 ∧ 0 ≤ l
theorem LfI.z {m : Qb} {c : Int} : LfI m c 0 m.fd7 := fun h => ⟨by omega, by omega, h.1⟩
theorem LfI.s {m : Qb} {c i l : Int} (h : LfI m c i l) (h0 : 0 ≤ i) (hi : i < KF c 1) (hc : c ≤ 64) (hl : 0 < l) : LfI m c (IntKind.i64.wrap (i + 1)) (IntKind.i64.wrap (l - 1)) := fun k => by
 obtain ⟨a, b, d⟩ := h k
 have := k.1; have := k.2
 rw [U1] at hi
 rw [Za (by omega), Za (by omega)]
 exact ⟨by omega, by omega, by omega⟩
theorem BtP.dn {s : Q2} {c n : Int} {nm : List ByteArray} {m : Qb} {r : Qi} (h : r.fg3 = true) (p : m.fc5 ≠ 1) : BtP s c nm n m r := ⟨fun _ k => (by rw [h] at k; cases k), fun q => absurd q p, fun _ _ => ⟨fun _ => h, fun k => (by rw [h] at k; cases k)⟩⟩
theorem BtP.one {s : Q2} {c n i : Int} {nm : List ByteArray} {m : Qb} {r : Qi} (p1 : m.fc5 = 1) (hd : r.fg3 = false) (hb : r.fa.fg5 = m.fg5) (hv : r.fa.fa9 = m.fa9) (hl : LfI m c i r.fa.fd7) (hx : ¬ (i < KF c 1 ∧ 0 < r.fa.fd7)) (hp : (r.fa.fd7 = 0 ∧ r.fa.fc5 = 2) ∨ (r.fa.fd7 ≠ 0 ∧ r.fa.fc5 = 1)) : BtP s c nm n m r := by
 refine ⟨fun h => by omega, fun _ hf => ⟨hd, hb, hv, ?_, ?_⟩, fun _ h => absurd p1 h⟩
 ·obtain ⟨a, b, d⟩ := hl hf
  rw [U1] at hx
  omega
 ·split <;> omega
theorem ImP.dn {c : Qz} {n : Int} {m : Qb} {r : Qi} (h : r.fg3 = true) : ImP c n m r := ⟨fun _ k => (by rw [h] at k; cases k), fun _ _ k => (by rw [h] at k; cases k), fun _ _ => h⟩
theorem ImP.z {c : Qz} {n : Int} {m : Qb} {r : Qi} (p : m.fc5 = 0) (h1 : r.fa.fc5 = 1) (h2 : r.fa.fd7 = Pi n c.fb6) : ImP c n m r := ⟨fun _ _ => ⟨h1, h2⟩, fun h => by omega, fun h => absurd p h⟩
theorem Qlu {a c : Int} (h : 0 ≤ a ∧ a ≤ 200000000) (hc : c ≤ 64) (k : KF (IntKind.i64.wrap (a - KF c 1)) 0 > 0) : KF (IntKind.i64.wrap (a - KF c 1)) 0 = a - max c 1 ∧ 0 < a - max c 1 := by
 rw [U1, U1] at k ⊢
 rw [Za (by omega)] at k ⊢
 omega
theorem ImP.o {c : Qz} {n : Int} {m : Qb} {r : Qi} (p : m.fc5 = 1) (h1 : r.fa.fc5 = m.fc5) (h2 : r.fa.fd7 = KF (IntKind.i64.wrap (m.fd7 - KF c.fb0 1)) 0) (hc : c.fb0 ≤ 64) (k : KF (IntKind.i64.wrap (m.fd7 - KF c.fb0 1)) 0 > 0) : ImP c n m r := ⟨fun h => by omega, fun _ hf _ => .inl ⟨by omega, by rw [h2]; exact k, by rw [h2]; exact (Qlu hf hc k).1⟩, fun _ h => absurd p h⟩
theorem ImP.t {c : Qz} {n : Int} {m : Qb} {r : Qi} (p : m.fc5 = 1) (h1 : r.fa.fc5 = 2) : ImP c n m r := ⟨fun h => by omega, fun _ _ _ => .inr h1, fun _ h => absurd p h⟩
theorem OpP.dn {c n : Int} {m : Qb} {r : Qi} (h : r.fg3 = true) : OpP c n m r := ⟨fun _ k => (by rw [h] at k; cases k), fun _ _ k => (by rw [h] at k; cases k)⟩
theorem OpP.z {c n : Int} {m : Qb} {r : Qi} (p : m.fc5 = 0) (h1 : r.fa.fc5 = 1) (h2 : 0 ≤ r.fa.fd7 ∧ r.fa.fd7 ≤ n) : OpP c n m r := ⟨fun _ _ => ⟨h1, h2⟩, fun h => absurd p h⟩
theorem OpP.o {c n : Int} {m : Qb} {r : Qi} (p : ¬ m.fc5 = 0) (h1 : r.fa.fc5 = m.fc5) (h2 : r.fa.fd7 = KF (IntKind.i64.wrap (m.fd7 - KF c 1)) 0) (hc : c ≤ 64) (k : KF (IntKind.i64.wrap (m.fd7 - KF c 1)) 0 > 0) : OpP c n m r := ⟨fun h => absurd h p, fun _ hf _ => ⟨h1, by rw [h2]; exact k, by rw [h2]; exact (Qlu hf hc k).1⟩⟩
theorem KS.tr {s t u : Q2} (k : KS t u) (h : KS s t) : KS s u := h.trans k
theorem VJ.e3 {s t u : Q2} {r : Qi} (e : r.fx = u) (k : KS t u) (h : KS s t) : VJ s r := VJ.on e (h.trans k)
theorem VJ.e2 {s t u : Q2} {r : Qi} (e : r.fx = u) (hd : r.fg3 = true) (k : KS t u) (h : KE s t) : VJ s r := fun hs => by
 have kt := k (h.1 hs)
 rw [e]
 refine ⟨kt.1.g.trans h.2.1, kt.2, fun c => (by rw [hd] at c; cases c), ?_⟩
 rcases h.2.2 with e2 | e2
 ·subst e2; exact .inl kt.1
 ·exact .inr ⟨by rw [kt.1.c]; exact e2.1, fun a => by have := kt.1.mo a; have := e2.2 a; rw [kt.1.c]; omega⟩
theorem VJ.o {s t : Q2} {r : Qi} (e : r.fx = t) (h : KS s t) : VJ s r := VJ.on e h
theorem VJ.e {s t : Q2} {r : Qi} (e : r.fx = t) (hd : r.fg3 = true) (h : KS s t) : VJ s r := VJ.on e h
theorem VJ.e1 {s t : Q2} {r : Qi} (e : r.fx = t) (hd : r.fg3 = true) (h : KE s t) : VJ s r := VJ.e2 e hd (KS.refl _) h
theorem yx_ {p : Prop} (h : p := by
  repeat (first | with_reducible refine Oe ?_ | (with_reducible intro h; first | subst h | (simp only [decide_eq_true_eq, decide_eq_false_iff_not, Bool.not_eq_eq_eq_not, Bool.not_true, Bool.not_false, II, CJ, Bool.and_eq_true, Bool.or_eq_true, Bool.or_eq_false_iff, Bool.and_eq_false_imp, beq_iff_eq, bne_iff_ne, beq_eq_false_iff_ne, bne_eq_false_iff_eq, Bool.true_eq_false, Bool.false_eq_true, reduceCtorEq, ix] at h) | skip))
  repeat' first
    | with_reducible assumption
    | with_reducible exact KS.refl _
    | with_reducible exact Xs.pn (by assumption)
    | with_reducible exact Gb.nil
    | with_reducible exact Gd.nil
    | exact Gd.fr (by assumption) (by omega) (by assumption) (by assumption)
    | with_reducible exact spl (by assumption)
    | with_reducible exact FrP.no (by assumption)
    | with_reducible exact FrP.ok (by assumption)
    | with_reducible exact Xs.new (by omega)
    | with_reducible exact hd20 (Z0t (by assumption) (by assumption)) (by assumption) (by omega) (by omega)
    | with_reducible exact hd21 (Z0t (by assumption) (by assumption)) (by assumption) (by omega) (by omega)
    | with_reducible exact hd60 (Z0t (by assumption) (by assumption)) (by assumption) (by omega) (by omega)
    | with_reducible exact cl8 (by assumption) (by omega) (by omega) (by omega) (by omega)
    | (with_reducible refine ks_ ?_; assumption)
    | with_reducible exact VJ.e (by assumption) (by assumption) (by first | with_reducible exact KS.refl _ | assumption)
    | with_reducible exact VJ.e1 (by assumption) (by assumption) (by assumption)
    | with_reducible exact MO.nil
    | exact MO.app (by assumption) (by assumption) (by assumption) (by assumption) (by assumption) (by omega)
    | exact MO.fin (by assumption) (by omega)
    | exact KS.tr (by assumption) (by assumption)
    | exact VJ.e3 (by assumption) (by assumption) (by assumption)
    | with_reducible exact LfI.z
    | exact LfI.s (by assumption) (by assumption) (by omega) (by omega) (by omega)
    | exact BtP.dn (by assumption) (by omega)
    | exact BtP.one (by assumption) rfl rfl rfl (by assumption) (by dsimp only; omega) (by dsimp only; omega)
    | exact ImP.dn (by first | assumption | rfl)
    | exact ImP.z (by assumption) rfl (by first | assumption | rfl)
    | exact ImP.o (by assumption) rfl rfl (by assumption) (by assumption)
    | exact ImP.t (by assumption) rfl
    | exact OpP.dn (by first | assumption | rfl)
    | exact OpP.z (by assumption) rfl ⟨by dsimp only; omega, by dsimp only; omega⟩
    | exact OpP.o (by assumption) rfl rfl (by assumption) (by assumption)
    | exact VJ.e2 (by assumption) (by assumption) (by assumption) (by assumption)
    | exact VJ.e rfl rfl (by first | with_reducible exact KS.refl _ | assumption)
    | exact VJ.o rfl (by first | with_reducible exact KS.refl _ | assumption)
    | exact VJ.e1 rfl (by assumption) (by assumption)
    | (with_reducible refine Z5 (fun h => ?_) (fun h => ?_)
       all_goals first | (simp only [decide_eq_true_eq, decide_eq_false_iff_not, Bool.not_eq_eq_eq_not, Bool.not_true, Bool.not_false, II, CJ, Bool.and_eq_true, Bool.or_eq_true, Bool.or_eq_false_iff, Bool.and_eq_false_imp, beq_iff_eq, bne_iff_ne, beq_eq_false_iff_ne, bne_eq_false_iff_eq, Bool.true_eq_false, Bool.false_eq_true, reduceCtorEq, ix] at h) | skip
       all_goals first | (with_reducible refine fwd (by with_reducible assumption) h ?_; repeat (first | with_reducible refine Oe ?_ | (with_reducible intro h; first | subst h | (simp only [decide_eq_true_eq, decide_eq_false_iff_not, Bool.not_eq_eq_eq_not, Bool.not_true, Bool.not_false, II, CJ, Bool.and_eq_true, Bool.or_eq_true, Bool.or_eq_false_iff, Bool.and_eq_false_imp, beq_iff_eq, bne_iff_ne, beq_eq_false_iff_ne, bne_eq_false_iff_eq, Bool.true_eq_false, Bool.false_eq_true, reduceCtorEq, ix] at h) | skip))) | skip)
    | with_reducible refine U0 ?_
    | with_reducible refine joi ?_
    | (with_reducible apply lvi
       case' h => (repeat (first | with_reducible refine Oe ?_ | (with_reducible intro h; first | subst h | (simp only [decide_eq_true_eq, decide_eq_false_iff_not, Bool.not_eq_eq_eq_not, Bool.not_true, Bool.not_false, II, CJ, Bool.and_eq_true, Bool.or_eq_true, Bool.or_eq_false_iff, Bool.and_eq_false_imp, beq_iff_eq, bne_iff_ne, beq_eq_false_iff_ne, bne_eq_false_iff_eq, Bool.true_eq_false, Bool.false_eq_true, reduceCtorEq, ix] at h) | skip))))
    | (with_reducible apply K2
       case' k => (repeat (first | with_reducible refine Oe ?_ | (with_reducible intro h; first | subst h | (simp only [decide_eq_true_eq, decide_eq_false_iff_not, Bool.not_eq_eq_eq_not, Bool.not_true, Bool.not_false, II, CJ, Bool.and_eq_true, Bool.or_eq_true, Bool.or_eq_false_iff, Bool.and_eq_false_imp, beq_iff_eq, bne_iff_ne, beq_eq_false_iff_ne, bne_eq_false_iff_eq, Bool.true_eq_false, Bool.false_eq_true, reduceCtorEq, ix] at h) | skip))))
    | with_reducible refine ixs (by with_reducible assumption) (by with_reducible assumption) ?_
    | with_reducible refine ixt (by with_reducible assumption) (by with_reducible assumption) ?_
    | (with_reducible apply ixq (by with_reducible assumption)
       case' k => (repeat (first | with_reducible refine Oe ?_ | (with_reducible intro h; first | subst h | (simp only [decide_eq_true_eq, decide_eq_false_iff_not, Bool.not_eq_eq_eq_not, Bool.not_true, Bool.not_false, II, CJ, Bool.and_eq_true, Bool.or_eq_true, Bool.or_eq_false_iff, Bool.and_eq_false_imp, beq_iff_eq, bne_iff_ne, beq_eq_false_iff_ne, bne_eq_false_iff_eq, Bool.true_eq_false, Bool.false_eq_true, reduceCtorEq, ix] at h) | skip))))
    | (with_reducible apply ixi
       case' k => (repeat (first | with_reducible refine Oe ?_ | (with_reducible intro h; first | subst h | (simp only [decide_eq_true_eq, decide_eq_false_iff_not, Bool.not_eq_eq_eq_not, Bool.not_true, Bool.not_false, II, CJ, Bool.and_eq_true, Bool.or_eq_true, Bool.or_eq_false_iff, Bool.and_eq_false_imp, beq_iff_eq, bne_iff_ne, beq_eq_false_iff_ne, bne_eq_false_iff_eq, Bool.true_eq_false, Bool.false_eq_true, reduceCtorEq, ix] at h) | skip))))
    | (with_reducible apply bxi
       case' k => (repeat (first | with_reducible refine Oe ?_ | (with_reducible intro h; first | subst h | (simp only [decide_eq_true_eq, decide_eq_false_iff_not, Bool.not_eq_eq_eq_not, Bool.not_true, Bool.not_false, II, CJ, Bool.and_eq_true, Bool.or_eq_true, Bool.or_eq_false_iff, Bool.and_eq_false_imp, beq_iff_eq, bne_iff_ne, beq_eq_false_iff_ne, bne_eq_false_iff_eq, Bool.true_eq_false, Bool.false_eq_true, reduceCtorEq, ix] at h) | skip))))
    | (with_reducible apply nxg
       case' k => (repeat (first | with_reducible refine Oe ?_ | (with_reducible intro h; first | subst h | (simp only [decide_eq_true_eq, decide_eq_false_iff_not, Bool.not_eq_eq_eq_not, Bool.not_true, Bool.not_false, II, CJ, Bool.and_eq_true, Bool.or_eq_true, Bool.or_eq_false_iff, Bool.and_eq_false_imp, beq_iff_eq, bne_iff_ne, beq_eq_false_iff_ne, bne_eq_false_iff_eq, Bool.true_eq_false, Bool.false_eq_true, reduceCtorEq, ix] at h) | skip))))
    | (with_reducible apply ixg
       case' k => (repeat (first | with_reducible refine Oe ?_ | (with_reducible intro h; first | subst h | (simp only [decide_eq_true_eq, decide_eq_false_iff_not, Bool.not_eq_eq_eq_not, Bool.not_true, Bool.not_false, II, CJ, Bool.and_eq_true, Bool.or_eq_true, Bool.or_eq_false_iff, Bool.and_eq_false_imp, beq_iff_eq, bne_iff_ne, beq_eq_false_iff_ne, bne_eq_false_iff_eq, Bool.true_eq_false, Bool.false_eq_true, reduceCtorEq, ix] at h) | skip))))
    | (with_reducible apply bxg
       case' k => (repeat (first | with_reducible refine Oe ?_ | (with_reducible intro h; first | subst h | (simp only [decide_eq_true_eq, decide_eq_false_iff_not, Bool.not_eq_eq_eq_not, Bool.not_true, Bool.not_false, II, CJ, Bool.and_eq_true, Bool.or_eq_true, Bool.or_eq_false_iff, Bool.and_eq_false_imp, beq_iff_eq, bne_iff_ne, beq_eq_false_iff_ne, bne_eq_false_iff_eq, Bool.true_eq_false, Bool.false_eq_true, reduceCtorEq, ix] at h) | skip))))
    | with_reducible refine And.intro ?_ ?_
    | dsimp only
    | with_reducible refine sh0 ?_
    | with_reducible refine sh1 ?_
    | with_reducible refine sh2 ?_
    | with_reducible refine sh3 ?_
    | with_reducible refine sh4 (by with_reducible assumption) ?_
    | with_reducible refine sr0 ?_ ?_
    | with_reducible refine sr1 ?_ ?_
    | with_reducible refine mu0 ?_ ?_
    | with_reducible refine mu2 ?_ ?_
    | with_reducible refine mu3 ?_ ?_
    | with_reducible refine mu4 (by with_reducible assumption) ?_ ?_
    | with_reducible refine mu5 (by with_reducible assumption) ?_ ?_
    | with_reducible refine ce0 (by with_reducible assumption) ?_ ?_ ?_ ?_
    | with_reducible refine ce1 (by with_reducible assumption) ?_ ?_ ?_ ?_
    | with_reducible refine co0 ?_ ?_
    | with_reducible refine co1 ?_ ?_
    | with_reducible exact xr0
    | with_reducible exact w8a
    | with_reducible exact sz0
    | with_reducible refine sz1 ?_
    | with_reducible refine sh6 ?_
    | with_reducible exact w8b
    | with_reducible exact bo0
    | with_reducible refine mu6 ?_ ?_
    | with_reducible exact U1 _ _
    | with_reducible exact sI_b
    | with_reducible exact xr1
    | with_reducible refine tm0 ?_
    | with_reducible refine tm1 ?_ ?_
    | with_reducible refine tm2 ?_ ?_
    | (simp only [List.length_replicate, Int.reduceToNat]; done)
    | with_reducible refine ZS ?_ ?_
    | with_reducible refine JC ?_
    | with_reducible refine MN ?_ ?_
    | with_reducible exact ZT
    | with_reducible exact Qxr
    | with_reducible refine Qxs (by with_reducible assumption) (by with_reducible assumption) (by with_reducible assumption) ?_ ?_
    | with_reducible refine PX ?_
    | with_reducible refine Qxt (by with_reducible assumption) ?_
    | with_reducible refine Og ?_
    | with_reducible refine Qxq ?_
    | with_reducible refine XS ?_ ?_
    | with_reducible exact Qdq
    | with_reducible refine Qlj ?_
    | exact Or.inl (by with_reducible assumption)
    | exact Or.inr (by with_reducible assumption)
    | with_reducible refine Or.inr ?_
    | with_reducible refine Oe ?_
    | (with_reducible intro h
       first | subst h | (simp only [decide_eq_true_eq, decide_eq_false_iff_not, Bool.not_eq_eq_eq_not, Bool.not_true, Bool.not_false, II, CJ, Bool.and_eq_true, Bool.or_eq_true, Bool.or_eq_false_iff, Bool.and_eq_false_imp, beq_iff_eq, bne_iff_ne, beq_eq_false_iff_ne, bne_eq_false_iff_eq, Bool.true_eq_false, Bool.false_eq_true, reduceCtorEq, ix] at h) | skip
       first | (with_reducible refine fwm (by with_reducible assumption) h ?_; repeat (first | with_reducible refine Oe ?_ | (with_reducible intro h; first | subst h | (simp only [decide_eq_true_eq, decide_eq_false_iff_not, Bool.not_eq_eq_eq_not, Bool.not_true, Bool.not_false, II, CJ, Bool.and_eq_true, Bool.or_eq_true, Bool.or_eq_false_iff, Bool.and_eq_false_imp, beq_iff_eq, bne_iff_ne, beq_eq_false_iff_ne, bne_eq_false_iff_eq, Bool.true_eq_false, Bool.false_eq_true, reduceCtorEq, ix] at h) | skip))) | (with_reducible refine fwd (by with_reducible assumption) h ?_; repeat (first | with_reducible refine Oe ?_ | (with_reducible intro h; first | subst h | (simp only [decide_eq_true_eq, decide_eq_false_iff_not, Bool.not_eq_eq_eq_not, Bool.not_true, Bool.not_false, II, CJ, Bool.and_eq_true, Bool.or_eq_true, Bool.or_eq_false_iff, Bool.and_eq_false_imp, beq_iff_eq, bne_iff_ne, beq_eq_false_iff_ne, bne_eq_false_iff_eq, Bool.true_eq_false, Bool.false_eq_true, reduceCtorEq, ix] at h) | skip))) | skip)
    | (with_reducible refine idJ ?_
       with_reducible apply_assumption only [*])
    | omega
    | (simp only [zSn, zE, zI, zCm, zLl, zB, zP, MK, okV, oB, IntKind.wrap_i64, IntKind.wrap_u64, oN, oK, oE, Qlk, U1, IE, ByteArray.size_empty, List.length_append, List.length_cons, List.length_nil, List.length_set, List.length_map, List.length_take, List.length_drop] at *; first | omega | grind)
    | with_reducible exact trivial
    | (simp only [zSn, zE, zI, zCm, zLl, zB, zP, MK, okV, List.length_nil, ByteArray.size_empty]; done)
    | (simp only [zSn, zE, zI, zCm, zLl, zB, zP, MK, okV, List.length_nil, ByteArray.size_empty]; omega)
    | with_reducible rfl
    | grind
    | (with_reducible apply_assumption only [*]
       all_goals first | with_reducible assumption | omega | (simp only [Bool.not_eq_true, Bool.not_eq_false, decide_eq_true_eq, decide_eq_false_iff_not]; omega))
  all_goals fail) : p := h
theorem Gf {R : Type} {W W' : (R → Prop) → Prop} [Gm W] {Pre : Prop} {Post : R → Prop} (hW : ∀ Q, W Q = W' Q) (h : Pre → W' Post := by exact yx_) : Nx W Pre Post := ⟨fun hp => ex_ (by rw [hW]; exact h hp)⟩
theorem EG {σ : Type} {I : σ → Prop} {m : σ → Nat} {S : σ → St → Option St} {step : (σ → Prop) → σ → Prop} {s : σ} (I2 : σ → Prop) (h0 : I s) (h1 : I2 s) (h : ∀ s, I s → I2 s → ∀ X : σ → Prop, (∀ s', I s' → I2 s' → m s' < m s → Jp X s') → step (Jp X) s) : lv I m S step s :=
 Bp (I := fun k s => (I s ∧ I2 s) ∧ k = m s) (fun k s ⟨⟨hi, h2⟩, hk⟩ X hX => h s hi h2 X fun s' hi' h2' hm => hX (m s') s' (by rw [hk]; exact hm) ⟨⟨hi', h2'⟩, rfl⟩) ⟨⟨h0, h1⟩, rfl⟩
set_option maxRecDepth 100000
set_option maxHeartbeats 4000000
abbrev Bq : Prop := ∀ {a0 a1 a2}, Nx (ZE a0 a1 a2) (True) (fun r => r = decide (a1 ≤ a0 ∧ a0 ≤ a2))
abbrev Br : Prop := ∀ {a0 a1 a2}, Nx (Zq a0 a1 a2) (True) (fun r => r = decide (a1 ≤ a0 ∧ a0 ≤ a2))
abbrev ZA : Prop := ∀ {a0 a1 a2}, Nx (QC a0 a1 a2) (True) (fun r => r = decide (a1 ≤ a0 ∧ a0 ≤ a2))
abbrev Bs : Prop := ∀ {a0 a1 a2}, Nx (Zr a0 a1 a2) (True) (fun r => r = decide (a1 ≤ a0 ∧ a0 ≤ a2))
abbrev Wn : Prop := ∀ {a0}, Nx (ZY a0) (True) (fun r => (r = 0 → Qjq a0) ∧ (Qs5 a0 → r = 0))
abbrev Oi : Prop := ∀ {a0}, Nx (U7 a0) (True) (fun r => (r.2 = 0 → UC r.1 ∧ r.1.fj = a0) ∧ (Qs5 a0 → r.2 = 0) ∧ (r.2 = 0 → r.1.fa1 = [] ∧ r.1.fb4 = [] ∧ r.1.ff4 = 0 ∧ r.1.f7 = 0 ∧ r.1.fj = a0))
abbrev Dg : Prop := ∀ {a0}, Nx (KP a0) (1 ≤ a0 ∧ a0 ≤ 64) (fun r => (r.1.length : Int) = a0 ∧ ∀ x ∈ r.1, zSe x ∧ x.ff6 = false)
abbrev Wx : Prop := ∀ {a0 a1 a2}, Nx (Jd a0 a1 a2) (True) (fun r => r = Q0p a0 a1 a2)
abbrev Wy : Prop := ∀ {a0 a1}, Nx (JG a0 a1) (a0.f9.length ≤ 2000000) (fun r => (-1 ≤ r ∧ r < (a0.f9.length : Int) ∧ (0 ≤ r → ∃ p ∈ a0.f9, p.fc7 = a1)) ∧ IxP a0.f9 a1 r)
abbrev GL : Prop := ∀ {a0 a1}, Nx (Wd a0 a1) (zAr a0) (fun r => zAr r.1 ∧ HoP a0 a1 r.1)
abbrev D6 : Prop := ∀ {a0 a1}, Nx (VY a0 a1) (zAr a0) (fun r => zAr r.1 ∧ ReP a0 a1 r.1)
abbrev GN : Prop := ∀ {a0 a1}, Nx (Wb a0 a1) (zAr a0) (fun r => (r.1.length ≤ 1024 ∧ bB r.1) ∧ DaP a0.f9 a1 r.1)
abbrev Yl : Prop := ∀ {a0}, Nx (ZV a0) (a0.length ≤ 2000000) (fun r => r = 0 → ∀ x ∈ a0, 1 ≤ x.fb9 ∧ x.fb9 ≤ 1024)
abbrev Ej : Prop := ∀ {a0 a1}, Nx (XF a0 a1) (a0.length ≤ 2000000) (fun r => r.1.length ≤ a0.length + 1 ∧ ∀ x ∈ r.1, zP x)
abbrev Bt : Prop := ∀ {a0 a1}, Nx (JS a0 a1) (a0.length ≤ 2000000) (fun r => r.1.length ≤ a0.length ∧ ∀ x ∈ r.1, zP x)
abbrev Ek : Prop := ∀ {a0}, Nx (JP a0) (True) (fun r => r = max a0 0)
abbrev Ax : Prop := ∀ {a0 a1 a2}, Nx (Vh a0 a1 a2) (0 ≤ a2 ∧ a2 ≤ 1099511627776) (fun r => 0 ≤ r.1 ∧ r.1 ≤ a2 ∧ (0 ≤ a0 → 0 ≤ a1 → r.1 = min (a0 + a1) a2))
abbrev FC : Prop := ∀ {a0}, Nx (Yx a0) (a0.length ≤ 2000000 ∧ ∀ x ∈ a0, zP x) (fun r => (a0.length : Int) ≤ r)
abbrev Um : Prop := ∀ {a0 a1 a2}, Nx (V0 a0 a1 a2) (a0.length ≤ 2000000) (fun r => True)
abbrev UN : Prop := ∀ {a0 a1}, Nx (KV a0 a1) (a0.length ≤ 2000000) (fun r => (0 ≤ r.1 ∧ (r.2 = true → r.1 < (a0.length : Int))) ∧ (r.2 = false → a0.find? (veF a1) = none) ∧ (r.2 = true → ∃ v, a0[r.1.toNat]? = some v ∧ a0.find? (veF a1) = some v))
abbrev Bu : Prop := ∀ {a0 a1 a2}, Nx (VC a0 a1 a2) (a0.length ≤ 2000000) (fun r => r = (match a0.find? (bnF a1 a2) with | some b => (b.fb7, true) | none => (0, false)))
abbrev Dv : Prop := ∀ {a0 a1}, Nx (Xf a0 a1) (a0.length ≤ 2000000) (fun r => -1 ≤ r ∧ r < (a0.length : Int))
abbrev Bv : Prop := ∀ {a0 a1}, Nx (Xe a0 a1) (a0.length ≤ 2000000) (fun r => True)
abbrev Cp : Prop := ∀ {a0 a1}, Nx (Xt a0 a1) (a0.length ≤ 2000000) (fun r => r.length = a0.length + 1 ∧ ∀ x ∈ r, x ∈ a0 ++ [a1])
abbrev El : Prop := ∀ {a0 a1 a2}, Nx (JR a0 a1 a2) (True) (fun r => True)
abbrev JJ : Prop := ∀ {a0}, Nx (Zz a0) (a0.size ≤ 2000000) (fun r => r = true → a0.size ≤ 16)
abbrev Jg : Prop := ∀ {a0}, Nx (Zh a0) (a0.length ≤ 2000000 ∧ ∀ x ∈ a0, zB x) (fun r => True)
abbrev XW : Prop := ∀ {a0}, Nx (ZL a0) (a0.length ≤ 2000000) (fun r => True)
abbrev GO : Prop := ∀ {a0 a1 a2 a3}, Nx (Yk a0 a1 a2 a3) (a0.length ≤ 2000000 ∧ a1.size ≤ 2000000 ∧ ∀ x ∈ a0, zB x) (fun r => (r.1.length ≤ a0.length + 1 ∧ ∀ x ∈ r.1, zB x) ∧ ∀ x ∈ r.1, x ∈ a0 ∨ x.fTo = 0)
abbrev Em : Prop := ∀ {a0 a1 a2}, Nx (XN a0 a1 a2) (a0.length ≤ 2000000 ∧ a1.size ≤ 2000000 ∧ ∀ x ∈ a0, zB x) (fun r => (r.1.length ≤ a0.length ∧ ∀ x ∈ r.1, zB x) ∧ ∀ x ∈ r.1, x ∈ a0 ∨ x.fTo = a2)
abbrev Eo : Prop := ∀ {a0 a1 a2 a3}, Nx (XO a0 a1 a2 a3) (a0.length ≤ 2000000 ∧ (a1.size ≤ 2000000 ∧ a2.size ≤ 2000000) ∧ ∀ x ∈ a0, zB x) (fun r => (r.1.length ≤ a0.length + 1 ∧ ∀ x ∈ r.1, zB x) ∧ ∀ x ∈ r.1, x ∈ a0 ∨ x.fTo = a3 ∨ x.fTo = 0)
abbrev FD : Prop := ∀ {a0 a1}, Nx (YB a0 a1) ((a0.length ≤ 2000000 ∧ a1.length ≤ 2000000) ∧ ∀ x ∈ a0, zB x) (fun r => (r.length ≤ a0.length ∧ ∀ x ∈ r, zB x) ∧ (∀ x ∈ r, x ∈ a0) ∧ r.filter LG = a0.filter LG)
abbrev WN : Prop := ∀ {a0 a1}, Nx (Ke a0 a1) (a0.length ≤ 2000000 ∧ (∀ x ∈ a0, okV x) ∧ okV a1) (fun r => ((r.1.length ≤ a0.length + 1 ∧ ∀ x ∈ r.1, okV x) ∧ ∀ x ∈ r.1, x ∈ a0 ∨ x.fTo = a1.fd0 ∨ x.fTo = 0) ∧ (r.1.map kv).Sublist (a0.map kv ++ [kv a1]))
abbrev Ay : Prop := ∀ {a0 a1}, Nx (Jz a0 a1) (a0.length ≤ 2000000 ∧ (∀ x ∈ a0, okV x)) (fun r => ((r.1.length ≤ a0.length ∧ ∀ x ∈ r.1, okV x) ∧ ∀ x ∈ r.1, x ∈ a0 ∨ x.fTo = a1) ∧ (r.1.map kv).Sublist (a0.map kv))
abbrev WO : Prop := ∀ {a0 a1}, Nx (Kf a0 a1) (a0.length ≤ 2000000 ∧ (∀ x ∈ a0, okV x)) (fun r => ((r.1.length ≤ a0.length ∧ (∀ x ∈ r.1, okV x) ∧ okV r.2.1) ∧ (r.2.2 = 0 → (∀ x ∈ r.1, x ∈ a0) ∧ (r.2.1.fTo ≠ 0 → r.1.filter Q24 = a0.filter Q24))) ∧ (r.2.2 = 0 → ∃ x y, a0 = x ++ r.2.1 :: y ∧ r.1 = x ++ y))
abbrev Dw : Prop := ∀ {a0 a1}, Nx (Yj a0 a1) (a0.length ≤ 2000000) (fun r => r.length ≤ a0.length)
abbrev Ep : Prop := ∀ {a0 a1}, Nx (XG a0 a1) ((a0.length ≤ 2000000 ∧ a1.length ≤ 2000000) ∧ (∀ x ∈ a0, zL x) ∧ (∀ x ∈ a1, zL x)) (fun r => (r.length = a1.length ∧ ∀ (k : Nat), r[k]? = some true → k < a0.length) ∧ ∀ (k : Nat), r[k]? = some true → ∃ d, a0[k]? = some d ∧ a1[k]? = some d)
abbrev Cq : Prop := ∀ {a0 a1}, Nx (Xn a0 a1) (a0.length ≤ 100000000 ∧ bB a0) (fun r => ((∀ x ∈ r.1, zL x) ∧ r.1.length ≤ a0.length) ∧ (1 ≤ a1 ∧ a1 ≤ 1024 → r.1.flatten = a0 ∧ ∀ x ∈ r.1, (x.length : Int) ≤ a1 ∧ x ≠ []))
abbrev GP : Prop := ∀ {a0}, Nx (Wa a0) (a0.length ≤ 2000000 ∧ ∀ x ∈ a0, zL x) (fun r => (r.length ≤ 1024 * a0.length ∧ bB r) ∧ r = a0.flatten)
abbrev Cs : Prop := ∀ {a0 a1}, Nx (Xo a0 a1) (zAr a0 ∧ bB a1) (fun r => zAr r.1 ∧ AlP a0 a1 r)
abbrev Bw : Prop := ∀ {a0 a1}, Nx (VG a0 a1) (True) (fun r => r.1 = clF a0 a1)
abbrev Cu : Prop := ∀ {a0 a1}, Nx (Xq a0 a1) (True) (fun r => r.1 = Pi a0 a1)
abbrev By : Prop := ∀ {a0 a1}, Nx (VA a0 a1) (a0.fc8.length ≤ 2000000) (fun r => True)
abbrev Y2 : Prop := ∀ {a0 a1}, Nx (KA a0 a1) (a0.fc8.length ≤ 2000000 ∧ 0 ≤ a0.f7) (fun r => r ≠ 16 ∧ (a1 = a0.f7 → r = 0))
abbrev BA : Prop := ∀ {a0 a1}, Nx (VD a0 a1) (a0.length ≤ 2000000) (fun r => (-1 ≤ r ∧ r < (a0.length : Int)) ∧ (r < 0 → a0.find? (obF a1) = none) ∧ (0 ≤ r → ∃ o, a0[r.toNat]? = some o ∧ a0.find? (obF a1) = some o))
abbrev Y3 : Prop := ∀ {a0 a1 a2}, Nx (KB a0 a1 a2) (UC a0) (fun r => ((0 ≤ r.1 ∧ (r.2.2 = true → r.1 < (a0.fa1.length : Int))) ∧ okV r.2.1) ∧ (r.2.2 = false → view a0 a1 a2 = none) ∧ (r.2.2 = true → ∃ o, a0.fa1[r.1.toNat]? = some o ∧ r.2.1 ∈ o.fa9 ∧ view a0 a1 a2 = some (o.fID, r.2.1)))
abbrev X1 : Prop := ∀ {a0 a1 a2}, Nx (K3 a0 a1 a2) (UC a0) (fun r => r.2.2 ≠ 16 ∧ VerP a0 a1 a2 r)
abbrev BB : Prop := ∀ {a0 a1}, Nx (VE a0 a1) (UC a0 ∧ okV a1) (fun r => (r.length ≤ a1.f9.length ∧ ∀ x ∈ r, zL x) ∧ SdP a0.fc1.f9 a1.f9 r)
abbrev BC : Prop := ∀ {a0 a1 a2}, Nx (Xd a0 a1 a2) (UC a0) (fun r => (r.1.length ≤ 67108864 ∧ bB r.1) ∧ Gb r.1 ∧ (r.1.length : Int) ≤ a0.fj.f9 * a0.fj.fb6)
abbrev Wz : Prop := ∀ {a0 a1}, Nx (KC a0 a1) (UC a0) (fun r => True)
abbrev Dx : Prop := ∀ {a0}, Nx (Yi a0) (UC a0) (fun r => r = (a0.fc1.f9.length : Int))
abbrev BD : Prop := ∀ {a0 a1 a2}, Nx (VH a0 a1 a2) (UC a0 ∧ a1.size ≤ 2000000 ∧ a2.length ≤ 100000000 ∧ bB a2 ∧ Gb a2) (fun r => (UC r.1 ∧ r.2.2 ≠ 16) ∧ KE a0 r.1)
abbrev Ia : Prop := ∀ {a0 a1 a2}, Nx (Uf a0 a1 a2) (UC a0 ∧ a2.length ≤ 100000000 ∧ bB a2 ∧ Gb a2) (fun r => (UC r.1 ∧ r.2.2 ≠ 16) ∧ KE a0 r.1)
abbrev GQ : Prop := ∀ {a0 a1}, Nx (Wk a0 a1) (UC a0 ∧ a1.size ≤ 2000000) (fun r => (UC r.1 ∧ r.2.2 ≠ 16) ∧ KE a0 r.1)
abbrev Er : Prop := ∀ {a0 a1 a2}, Nx (XP a0 a1 a2) (UC a0 ∧ a1.size ≤ 2000000 ∧ a2.size ≤ 2000000) (fun r => (UC r.1 ∧ r.2.2 ≠ 16) ∧ KE a0 r.1)
abbrev CK : Prop := ∀ {a0 a1}, Nx (Xl a0 a1) (UC a0) (fun r => (UC r.1 ∧ r.2 ≠ 16) ∧ KS a0 r.1)
abbrev UY : Prop := ∀ {a0 a1}, Nx (JF a0 a1) (UC a0) (fun r => (UC r.1) ∧ KS a0 r.1)
abbrev Es : Prop := ∀ {a0 a1 a2}, Nx (XL a0 a1 a2) (UC a0) (fun r => UC r.1 ∧ KS a0 r.1 ∧ ∀ a, EF r.1.fa1 a ≤ EF a0.fa1 a)
abbrev FE : Prop := ∀ {a0}, Nx (YC a0) (UC a0) (fun r => (UC r.1) ∧ KS a0 r.1)
abbrev FF : Prop := ∀ {a0 a1}, Nx (YE a0 a1) (UC a0) (fun r => r.1.length ≤ 2000000)
abbrev GR : Prop := ∀ {a0}, Nx (Wj a0) (True) (fun r => r.fa1 = a0.fa1 ∧ r.fc8 = a0.fc8)
abbrev BE : Prop := ∀ {a0 a1}, Nx (VI a0 a1) (True) (fun r => r = bf (a0.fb7, a0.fd0) (a1.fb7, a1.fd0))
abbrev Cv : Prop := ∀ {a0}, Nx (JH a0) (True) (fun r => r.fb7 = a0.fid ∧ r.fd0 = a0.fv.fd0)
abbrev D7 : Prop := ∀ {a0 a1}, Nx (VX a0 a1) (a0.fc8.length ≤ 2000000) (fun r => True)
abbrev KM : Prop := ∀ {a0}, Nx (ZF a0) (True) (fun r => r = true → a0.size ≤ 32)
abbrev ZB : Prop := ∀ {a0}, Nx (Z3 a0) (True) (fun r => r = 0 → a0.fd5.size ≤ 32)
abbrev V1 : Prop := ∀ {a0}, Nx (Zm a0) (True) (fun r => (r = 0 → 1 ≤ a0.fa0 ∧ a0.fa0 ≤ 6) ∧ r ≠ 16)
abbrev XX : Prop := ∀ {a0}, Nx (ZK a0) (True) (fun r => (r = 0 → a0.fa0 = 5 → 0 ≤ a0.fb9) ∧ (r = 0 → a0.fa0 = 2 → a0.fd5.size ≤ 32) ∧ (r = 0 → a0.fa0 = 6 → a0.fd5.size ≤ 32) ∧ r ≠ 16)
abbrev LH : Prop := ∀ {a0 a1}, Nx (ZZ a0 a1) (a1.length ≤ 1000) (fun r => True)
abbrev GT : Prop := ∀ {a0}, Nx (Yf a0) (True) (fun r => True)
abbrev FG : Prop := ∀ {a0 a1 a2}, Nx (Xk a0 a1 a2) (zOp a0) (fun r => True)
abbrev G5 : Prop := ∀ {a0}, Nx (JB a0) (zOp a0) (fun r => r = 0 → 1 ≤ a0.fa0 ∧ a0.fa0 ≤ 17)
abbrev Kw : Prop := ∀ {a0}, Nx (Z9 a0) (True) (fun r => (r = 0 → oN a0.fy ∧ oN a0.fb3) ∧ r ≠ 16)
abbrev Zv : Prop := ∀ {a0}, Nx (QR a0) (zCm a0) (fun r => (r = 0 → oCm a0 ∧ a0.fc0.length ≤ 8) ∧ r ≠ 16)
abbrev ZN : Prop := ∀ {a0}, Nx (Z1 a0) (zLl a0) (fun r => (r = 0 → oLl a0) ∧ r ≠ 16)
abbrev Ym : Prop := ∀ {a0 a1}, Nx (ZJ a0 a1) (a0.length ≤ 2000000) (fun r => -1 ≤ r ∧ r < (a0.length : Int))
abbrev Cw : Prop := ∀ {a0 a1}, Nx (Xi a0 a1) (True) (fun r => True)
abbrev Kx : Prop := ∀ {a0}, Nx (Ze a0) (zTp a0) (fun r => (r = 0 → oTp a0) ∧ r ≠ 16)
abbrev Zw : Prop := ∀ {a0}, Nx (QS a0) (zFr a0) (fun r => (r = 0 → oFr a0) ∧ r ≠ 16)
abbrev ZH : Prop := ∀ {a0}, Nx (Z0 a0) (zRk a0) (fun r => (r = 0 → oRk a0) ∧ r ≠ 16)
abbrev A9 : Prop := ∀ {a0 a1}, Nx (V6 a0 a1) (a0.length ≤ 2000000) (fun r => True)
abbrev UO : Prop := ∀ {a0 a1}, Nx (KQ a0 a1) (zCm a0) (fun r => True)
abbrev BF : Prop := ∀ {a0 a1}, Nx (JO a0 a1) (zLl a0) (fun r => True)
abbrev Wo : Prop := ∀ {a0 a1}, Nx (Ko a0 a1) (a0.length ≤ 2000000) (fun r => True)
abbrev Et : Prop := ∀ {a0 a1}, Nx (XC a0 a1) (zTp a0) (fun r => True)
abbrev UP : Prop := ∀ {a0 a1}, Nx (KR a0 a1) (zFr a0) (fun r => True)
abbrev C2 : Prop := ∀ {a0 a1}, Nx (Vd a0 a1) (zRk a0) (fun r => True)
abbrev GU : Prop := ∀ {a0 a1}, Nx (W3 a0 a1) (zS a0) (fun r => True)
abbrev GV : Prop := ∀ {a0}, Nx (W4 a0) (zS a0) (fun r => zS r)
abbrev Vn : Prop := ∀ {a0}, Nx (ZD a0) (zS a0) (fun r => (r = 0 → 1 ≤ a0.fk.fa0 ∧ a0.fk.fa0 ≤ 6) ∧ r ≠ 16)
abbrev VK : Prop := ∀ {a0}, Nx (QW a0) (a0 ≤ 9223372036854775807) (fun r => (r.length ≤ 10 ∧ bB r ∧ (a0 < 248 → r.length = 1) ∧ ∀ k : Nat, a0 < 256 ^ k → r.length ≤ k + 1) ∧ (0 ≤ a0 → UnP a0 r))
abbrev Un : Prop := ∀ {a0}, Nx (Vy a0) (True) (fun r => r.length = 1 ∧ bB r)
abbrev Az : Prop := ∀ {a0}, Nx (Jo a0) (True) (fun r => r.1.length ≤ 60000 ∧ bB r.1)
abbrev EV : Prop := ∀ {a0}, Nx (YS a0) (True) (fun r => r.length = 8 ∧ bB r)
abbrev WP : Prop := ∀ {a0}, Nx (K8 a0) (zCm a0) (fun r => (r.1.length ≤ 60000 ∧ bB r.1) ∧ r.1.getD 0 0 ≤ 2 ∧ r.1.getD 1 0 ≤ 4)
abbrev UQ : Prop := ∀ {a0}, Nx (KT a0) (zLl a0) (fun r => r.1.length ≤ 60000 ∧ bB r.1)
abbrev CL : Prop := ∀ {a0}, Nx (Yc a0) (a0.size ≤ 2000000) (fun r => r.length ≤ a0.size + 10 ∧ bB r)
abbrev C3 : Prop := ∀ {a0}, Nx (Vf a0) (zTp a0) (fun r => r.1.length ≤ 60000 ∧ bB r.1)
abbrev WQ : Prop := ∀ {a0}, Nx (K9 a0) (zFr a0) (fun r => r.1.length ≤ 60000 ∧ bB r.1)
abbrev AA : Prop := ∀ {a0}, Nx (Jq a0) (zRk a0) (fun r => (r.1.length ≤ 60000 ∧ bB r.1) ∧ r.1.getD 0 0 ≤ 4)
abbrev D8 : Prop := ∀ {a0}, Nx (VR a0) (a0.length ≤ 100000000) (fun r => True)
abbrev AB : Prop := ∀ {a0 a1 a2}, Nx (Jr a0 a1 a2) (a0 ≤ 2 ∧ a1 ≤ 4) (fun r => zCm r.1)
abbrev C4 : Prop := ∀ {a0 a1}, Nx (Vg a0 a1) (True) (fun r => zLl r.1)
abbrev FH : Prop := ∀ {a0}, Nx (Yr a0) (True) (fun r => r.1.fq = [])
abbrev AC : Prop := ∀ {a0}, Nx (Js a0) (True) (fun r => r.1.fq = [])
abbrev D9 : Prop := ∀ {a0}, Nx (VS a0) (a0 ≤ 4) (fun r => r.1.fa8 = [] ∧ r.1.fu ≤ 4)
abbrev UA : Prop := ∀ {a0}, Nx (JA a0) (True) (fun r => r = decide (0 ≤ a0 ∧ a0 ≤ 1073741824))
abbrev Aa : Prop := ∀ {a0 a1}, Nx (V7 a0 a1) (True) (fun r => True)
abbrev AD : Prop := ∀ {a0 a1}, Nx (Jt a0 a1) (True) (fun r => True)
abbrev Eu : Prop := ∀ {a0}, Nx (W6 a0) (True) (fun r => 0 ≤ r ∧ r ≤ 18446744073709551615)
abbrev EW : Prop := ∀ {a0 a1}, Nx (YU a0 a1) (a0.length = 256 ∧ a1.size ≤ 2000000) (fun r => 0 ≤ r.1 ∧ r.1 ≤ 18446744073709551615)
abbrev Dy : Prop := ∀ {a0}, Nx (Yd a0) (True) (fun r => r.length = 256)
abbrev LI : Prop := ∀ {a0 a1}, Nx (An a0 a1) (True) (fun r => True)
abbrev FI : Prop := ∀ {a0 a1 a2 a3}, Nx (Ys a0 a1 a2 a3) (a3.size ≤ 2000000) (fun r => 0 ≤ r.1 ∧ (0 ≤ a1 → a1 ≤ 7 → 1 ≤ a2 → a2 ≤ 64 → r.1 < a2))
abbrev EX : Prop := ∀ {a0 a1 a2}, Nx (Ye a0 a1 a2) (((1 ≤ a0.fa5 ∧ a0.fa5 ≤ 8) ∧ (1 ≤ a0.fu ∧ a0.fu ≤ 64) ∧ (a0.fc0.length : Int) = a0.fa5 * a0.fu) ∧ (0 ≤ a1 ∧ a1 < a0.fa5) ∧ a2.size ≤ 2000000) (fun r => 0 ≤ r ∧ r < (a0.fc0.length : Int))
abbrev WR : Prop := ∀ {a0 a1}, Nx (Ka a0 a1) (zCm a0 ∧ zI a1) (fun r => zCm r.1)
abbrev Da : Prop := ∀ {a0 a1 a2}, Nx (VT a0 a1 a2) ((2 ≤ a0 ∧ a0 ≤ 8) ∧ a2.size ≤ 2000000) (fun r => 0 ≤ r.1 ∧ r.1 < Y7 .i64 1 (IntKind.u64.wrap a0))
abbrev UR : Prop := ∀ {a0 a1}, Nx (KU a0 a1) (zLl a0 ∧ zI a1) (fun r => zLl r.1)
abbrev AP : Prop := ∀ {a0}, Nx (K6 a0) (a0.length ≤ 2000000 ∧ ∀ x ∈ a0, zE x) (fun r => r.length = a0.length ∧ ∀ x ∈ r, zE x)
abbrev Wp : Prop := ∀ {a0 a1}, Nx (QZ a0 a1) (True) (fun r => True)
abbrev Dz : Prop := ∀ {a0}, Nx (Xc a0) (a0.fq.length ≤ 2000000) (fun r => True)
abbrev C5 : Prop := ∀ {a0 a1}, Nx (Vi a0 a1) (zTp a0 ∧ zI a1) (fun r => zTp r.1)
abbrev DC : Prop := ∀ {a0 a1}, Nx (Ji a0 a1) (a0.length ≤ 1000000 ∧ (∀ x ∈ a0, zE x) ∧ zE a1) (fun r => r.length ≤ a0.length + 1 ∧ ∀ x ∈ r, zE x)
abbrev DD : Prop := ∀ {a0 a1}, Nx (JQ a0 a1) (a0.length ≤ 1000000 ∧ ∀ x ∈ a0, zE x) (fun r => r.length ≤ a0.length ∧ ∀ x ∈ r, zE x)
abbrev WS : Prop := ∀ {a0 a1}, Nx (Kb a0 a1) (zFr a0 ∧ zI a1) (fun r => zFr r.1)
abbrev Ab : Prop := ∀ {a0}, Nx (V8 a0) (True) (fun r => r = decide (0 ≤ a0 ∧ a0 ≤ 1073741824))
abbrev VO : Prop := ∀ {a0}, Nx (ZR a0) (a0.length ≤ 100000000 ∧ bB a0) (fun r => ((0 ≤ r.2.1 ∧ r.2.1 ≤ (a0.length : Int)) ∧ 0 ≤ r.1 ∧ (r.2.2 = 0 → (r.2.1 = 1 ∧ r.1 < 248) ∨ ∃ k : Nat, r.2.1 = (k : Int) + 1 ∧ r.1 < 256 ^ k) ∧ r.2.2 ≠ 16) ∧ DuP a0 r)
abbrev UB : Prop := ∀ {a0 a1}, Nx (Vt a0 a1) (a1.length ≤ 100000000 ∧ bB a1 ∧ oB a0) (fun r => (r.1.length ≤ a1.length + 20 ∧ bB r.1 ∧ ((a1.length : Int) < 248 → r.1.length ≤ a1.length + 6) ∧ (∀ k : Nat, (a1.length : Int) < 256 ^ k → r.1.length ≤ a1.length + k + 6) ∧ (a1.length ≤ 1048576 → 5 ≤ r.1.length)) ∧ FrP a0 a1 r.1)
abbrev BG : Prop := ∀ {a0}, Nx (VF a0) (a0.length ≤ 100000000 ∧ bB a0) (fun r => (r.2.1.length ≤ 100000000 ∧ bB r.2.1 ∧ r.2.2.2 ≠ 16) ∧ (Gb a0 → hd r.2.1) ∧ (Gd a0 → Gb r.2.1))
abbrev FJ : Prop := ∀ {a0}, Nx (Yt a0) (True) (fun r => r.length ≤ 63 ∧ ∀ x ∈ r, 0 ≤ x ∧ x ≤ 62)
abbrev FK : Prop := ∀ {a0}, Nx (Yu a0) (a0.length ≤ 2000000 ∧ ∀ x ∈ a0, x.size ≤ 2000000) (fun r => r.length = a0.length ∧ ∀ x ∈ r, x.size ≤ 2000000)
abbrev LJ : Prop := ∀ {a0 a1}, Nx (Ao a0 a1) (a0.length ≤ 2000000 ∧ -2147483648 ≤ a1 ∧ a1 ≤ 2147483648) (fun r => 0 ≤ r ∧ r ≤ 1)
abbrev Cy : Prop := ∀ {a0 a1 a2 a3 a4}, Nx (Xj a0 a1 a2 a3 a4) ((a0.length ≤ 200 ∧ ∀ x ∈ a0, x.length ≤ 900 ∧ ∀ k ∈ x, k.size ≤ 2000000) ∧ (0 ≤ a4 ∧ a4 ≤ 1073741824) ∧ a3.length ≤ 2000000) (fun r => r.1.length ≤ 2000 ∧ ∀ x ∈ r.1, zKs x)
abbrev AE : Prop := ∀ {a0 a1 a2 a3}, Nx (Ju a0 a1 a2 a3) (zRk a0 ∧ zI a1 ∧ a2.length ≤ 2000000) (fun r => zRk r.1)
abbrev BH : Prop := ∀ {a0 a1 a2 a3}, Nx (JZ a0 a1 a2 a3) (zRk a0 ∧ zRk a1 ∧ a2.length ≤ 2000000) (fun r => zRk r.1)
abbrev ZX : Prop := ∀ {a0 a1}, Nx (Qk a0 a1) (zRd a0) (fun r => (zRd r.2 ∧ 0 ≤ r.1 ∧ (0 ≤ a1 → r.1 ≤ a1)) ∧ RnP a0 r)
abbrev Ky : Prop := ∀ {a0}, Nx (Zk a0) (True) (fun r => r.2 = a0)
abbrev AF : Prop := ∀ {a0}, Nx (Jv a0) (a0.length ≤ 100000000 ∧ bB a0) (fun r => True)
abbrev BI : Prop := ∀ {a0}, Nx (JU a0) (a0.length ≤ 100000000) (fun r => 0 ≤ r.2.1 ∧ r.2.1 ≤ (a0.length : Int))
abbrev Wq : Prop := ∀ {a0}, Nx (Kt a0) (zRd a0) (fun r => zRd r.2)
abbrev WT : Prop := ∀ {a0}, Nx (Kc a0) (a0.length ≤ 100000000 ∧ bB a0 ∧ a0.getD 0 0 ≤ 2 ∧ a0.getD 1 0 ≤ 4) (fun r => zCm r.1 ∧ r.1.fc0.length ≤ 8)
abbrev US : Prop := ∀ {a0}, Nx (KW a0) (a0.length ≤ 100000000 ∧ bB a0) (fun r => zLl r.1 ∧ r.1.fa3.length ≤ 256)
abbrev BJ : Prop := ∀ {a0}, Nx (JV a0) (a0.length ≤ 100000000 ∧ bB a0) (fun r => (0 ≤ r.2.1 ∧ r.2.1 ≤ (a0.length : Int)) ∧ r.1.size ≤ 2000000)
abbrev XT : Prop := ∀ {a0}, Nx (K1 a0) (zRd a0) (fun r => zRd r.2 ∧ r.1.size ≤ 2000000)
abbrev C6 : Prop := ∀ {a0}, Nx (Vj a0) (a0.length ≤ 100000000 ∧ bB a0) (fun r => zTp r.1 ∧ r.1.fq.length ≤ 32)
abbrev WU : Prop := ∀ {a0}, Nx (Kd a0) (a0.length ≤ 100000000 ∧ bB a0) (fun r => zFr r.1 ∧ r.1.fq.length ≤ 32)
abbrev AG : Prop := ∀ {a0}, Nx (Jw a0) (a0.length ≤ 100000000 ∧ bB a0 ∧ a0.getD 0 0 ≤ 4) (fun r => zRk r.1 ∧ r.1.fa8.length ≤ 41 ∧ ∀ l ∈ r.1.fa8, l.length ≤ 4)
abbrev BK : Prop := ∀ {a0 a1}, Nx (JY a0 a1) (True) (fun r => True)
abbrev Uo : Prop := ∀ {a0 a1}, Nx (Ku a0 a1) (zCm a0 ∧ zCm a1) (fun r => zCm r.1)
abbrev AH : Prop := ∀ {a0 a1}, Nx (Jx a0 a1) (zLl a0 ∧ zLl a1) (fun r => zLl r.1)
abbrev BL : Prop := ∀ {a0 a1}, Nx (ZO a0 a1) (zTp a0 ∧ a1.size ≤ 2000000) (fun r => zE r.1)
abbrev Db : Prop := ∀ {a0 a1}, Nx (VW a0 a1) (zTp a0 ∧ zTp a1) (fun r => zTp r.1)
abbrev Up : Prop := ∀ {a0 a1}, Nx (Kv a0 a1) (zFr a0 ∧ zFr a1) (fun r => zFr r.1)
abbrev YO : Prop := ∀ {a0 a1}, Nx (ZP a0 a1) (zCm a0 ∧ a1.size ≤ 2000000) (fun r => True)
abbrev UT : Prop := ∀ {a0 a1}, Nx (KX a0 a1) (zFr a0) (fun r => True)
abbrev Ev : Prop := ∀ {a0 a1}, Nx (XM a0 a1) (True) (fun r => True)
abbrev FL : Prop := ∀ {a0 a1 a2}, Nx (YD a0 a1 a2) (True) (fun r => True)
abbrev WV : Prop := ∀ {a0}, Nx (Kg a0) (zLl a0) (fun r => True)
abbrev EY : Prop := ∀ {a0 a1}, Nx (YW a0 a1) (zRk a0) (fun r => True)
abbrev Ib : Prop := ∀ {a0 a1}, Nx (Uk a0 a1) (zRk a0) (fun r => True)
abbrev Dc : Prop := ∀ {a0 a1 a2}, Nx (X0 a0 a1 a2) (zRk a0) (fun r => r.1.size ≤ 2000000 ∧ r.2 ≠ 16)
abbrev EZ : Prop := ∀ {a0}, Nx (YT a0) (zPa a0) (fun r => zS r.1)
abbrev BM : Prop := ∀ {a0 a1 a2 a3}, Nx (Vz a0 a1 a2 a3) (zS a0 ∧ zI a1 ∧ a2.length ≤ 2000000) (fun r => zS r.1)
abbrev FM : Prop := ∀ {a0 a1 a2 a3}, Nx (YA a0 a1 a2 a3) (zS a0 ∧ zS a1 ∧ a2.length ≤ 2000000) (fun r => zS r.1)
abbrev YP : Prop := ∀ {a0}, Nx (Jb a0) (zS a0) (fun r => (r.1.length ≤ 70000 ∧ bB r.1) ∧ Gb r.1)
abbrev Uq : Prop := ∀ {a0}, Nx (JW a0) (a0.length ≤ 100000000 ∧ bB a0 ∧ Gb a0) (fun r => (zS r.1 ∧ r.2 ≠ 16) ∧ Us r.1)
abbrev Wt : Prop := ∀ {a0}, Nx (Jj a0) (zS a0) (fun r => (r.1.length ≤ 2000000) ∧ r.2 ≠ 16)
abbrev U2 : Prop := ∀ {a0}, Nx (J0 a0) (True) (fun r => True)
abbrev F0 : Prop := ∀ {a0 a1}, Nx (YX a0 a1) (zS a0) (fun r => r.2 ≠ 16)
abbrev FN : Prop := ∀ {a0}, Nx (Yz a0) (Us a0) (fun r => 0 ≤ r ∧ r ≤ 372)
abbrev GW : Prop := ∀ {a0}, Nx (We a0) (a0.length ≤ 90000000 ∧ bB a0) (fun r => r.1.length ≤ 100000000 ∧ bB r.1 ∧ r.1.length ≤ a0.length + 20)
abbrev Ew : Prop := ∀ {a0}, Nx (XJ a0) (a0.length ≤ 100000000 ∧ bB a0) (fun r => (r.1.length ≤ 100000000 ∧ bB r.1 ∧ r.2 ≠ 16) ∧ (Gd a0 → Gb r.1))
abbrev V2 : Prop := ∀ {a0 a1}, Nx (QX a0 a1) (UC a0 ∧ a1 ≠ 16) (fun r => (ML r ∧ r.fa.fd7 = 0) ∧ r.fx = a0 ∧ r.fg3 = true)
abbrev Yn : Prop := ∀ {a0 a1 a2}, Nx (Kj a0 a1 a2) (UC a0 ∧ a2 ≠ 16) (fun r => (ML r ∧ r.fa.fd7 = 0) ∧ r.fx = a0 ∧ r.fg3 = true)
abbrev CM : Prop := ∀ {a0 a1}, Nx (VB a0 a1) (UC a0 ∧ zMa a1) (fun r => (UC r.1 ∧ zMa r.2) ∧ KS a0 r.1)
abbrev Cz : Prop := ∀ {a0 a1}, Nx (Xm a0 a1) (UC a0 ∧ a1.length ≤ 2000000) (fun r => ((UC r.1 ∧ zMa r.2.1 ∧ (r.2.2 = 0 → (r.2.1.fa9.length : Int) = (a1.length : Int))) ∧ r.2.2 ≠ 16) ∧ KS a0 r.1 ∧ (r.2.2 = 0 → r.2.1.fg5 = a0.f7 ∧ Shw a0 a1 r.2.1.fa9) ∧ (r.2.2 ≠ 0 → r.1 = a0))
abbrev U3 : Prop := ∀ {a0 a1 a2}, Nx (KZ a0 a1 a2) (UC a0 ∧ zMa a1 ∧ a2.length ≤ 2000000) (fun r => Shw a0 a2 a1.fa9 → r = true)
abbrev F1 : Prop := ∀ {a0 a1 a2}, Nx (YV a0 a1 a2) (UC a0 ∧ zMa a2) (fun r => (ML r ∧ r.fa.fd7 = 0) ∧ r.fg3 = true ∧ VJ a0 r)
abbrev FO : Prop := ∀ {a0 a1 a2 a3}, Nx (Yy a0 a1 a2 a3) (UC a0 ∧ a1 ≤ 64 ∧ zOp a2 ∧ zMa a3 ∧ a3.fd7 ≤ (a2.fb3.length : Int)) (fun r => (ML r ∧ r.fa.fd7 ≤ (a2.fb3.length : Int)) ∧ VJ a0 r ∧ BtP a0 a1 [a2.fd4] (a2.fb3.length : Int) a3 r)
abbrev Ex : Prop := ∀ {a0 a1 a2 a3}, Nx (XH a0 a1 a2 a3) (UC a0 ∧ a1 ≤ 64 ∧ zOp a2 ∧ zMa a3) (fun r => ML r ∧ VJ a0 r ∧ BtP a0 a1 [a2.fd4, a2.fg] 372 a3 r ∧ (a2.fa0 = 8 → a3.fc5 ≠ 0 → a3.fc5 ≠ 1 → r.fg3 = true))
abbrev GX : Prop := ∀ {a0}, Nx (Wg a0) (a0.length = 4) (fun r => 0 ≤ r.1 ∧ r.1 ≤ 3)
abbrev GY : Prop := ∀ {a0 a1 a2 a3 a4}, Nx (Wh a0 a1 a2 a3 a4) (UC a0 ∧ a1 ≤ 64 ∧ a2.length = 4 ∧ zOp a3 ∧ zMa a4) (fun r => ML r ∧ VJ a0 r ∧ OpP a1 (a3.fb8.length : Int) a4 r)
abbrev YQ : Prop := ∀ {a0 a1 a2}, Nx (KL a0 a1 a2) (a0.length = 4 ∧ ∀ y ∈ a0, zSn y) (fun r => zSn r.1 ∧ r.2.2 ≠ 16)
abbrev YR : Prop := ∀ {a0 a1 a2}, Nx (Jf a0 a1 a2) (UC a0) (fun r => zS r.1 ∧ r.2.2 ≠ 16)
abbrev Ic : Prop := ∀ {a0 a1 a2 a3 a4}, Nx (Ul a0 a1 a2 a3 a4) (UC a0 ∧ a1.length = 4 ∧ ∀ y ∈ a1, zSn y) (fun r => PQ r)
abbrev WW : Prop := ∀ {a0 a1 a2}, Nx (Kh a0 a1 a2) (UC a0 ∧ a1.length = 4 ∧ ∀ y ∈ a1, zSn y) (fun r => (UC r.1 ∧ r.2.1.length = 4 ∧ (∀ y ∈ r.2.1, zSn y) ∧ PQ r.2.2) ∧ KS a0 r.1)
abbrev AI : Prop := ∀ {a0 a1 a2 a3 a4}, Nx (Jy a0 a1 a2 a3 a4) (UC a0 ∧ a1.length = 4 ∧ (∀ y ∈ a1, zSn y) ∧ a2.length = 4) (fun r => (UC r.1 ∧ r.2.1.length = 4 ∧ PQ r.2.2) ∧ KS a0 r.1)
abbrev C7 : Prop := ∀ {a0 a1 a2 a3}, Nx (Vl a0 a1 a2 a3) (UC a0 ∧ a1.length = 4) (fun r => r.1.length = 4 ∧ PQ r.2)
abbrev UU : Prop := ∀ {a0 a1 a2}, Nx (KY a0 a1 a2) (UC a0 ∧ a1.length = 4) (fun r => (UC r.1 ∧ r.2.1.length = 4 ∧ PQ r.2.2) ∧ KS a0 r.1)
abbrev Ey : Prop := ∀ {a0 a1 a2 a3 a4}, Nx (XI a0 a1 a2 a3 a4) (UC a0 ∧ Qjq a1 ∧ a2.length = 4 ∧ (∀ y ∈ a2, zSn y) ∧ zMa a4) (fun r => ML r ∧ VJ a0 r ∧ (a1 = a0.fj → OpP a1.fb0 (a1.f9 + 4) a4 r))
abbrev Ez : Prop := ∀ {a0 a1 a2 a3}, Nx (XK a0 a1 a2 a3) (UC a0 ∧ Qjq a1 ∧ zOp a2 ∧ zMa a3) (fun r => ML r ∧ VJ a0 r ∧ ImP a1 (a2.fc6.length : Int) a3 r)
abbrev Ur : Prop := ∀ {a0 a1}, Nx (Zl a0 a1) (UC a0 ∧ PQ a1) (fun r => ML r ∧ r.fx = a0 ∧ r.fg3 = true)
abbrev C8 : Prop := ∀ {a0}, Nx (Vk a0) (zD a0) (fun r => r.length ≤ 1099511627776 ∧ Srt r ∧ (r.map ek).Perm (Ss a0.fa1))
abbrev GZ : Prop := ∀ {a0 a1 a2}, Nx (Wi a0 a1 a2) (zD a0 ∧ 1 ≤ a2 ∧ a2 ≤ 64 ∧ ∀ p ∈ Ss a0.fa1, 0 ≤ p.2 ∧ p.2 ≤ 1048576) (fun r => r.1.length ≤ 64 ∧ (r.2.2 = false → (EF a0.fa1 r.2.1 : Int) + a2 ≤ EF a0.fa1 a1))
abbrev Dd : Prop := ∀ {a0 a1}, Nx (VZ a0 a1) (UC a0 ∧ zMa a1) (fun r => ML r ∧ VJ a0 r ∧ (r.fg3 = false → (EF r.fx.fa1 r.fa.fAt : Int) + a0.fj.fb0 ≤ EF a0.fa1 a1.fAt))
abbrev EA : Prop := ∀ {a0 a1}, Nx (XQ a0 a1) (UC a0 ∧ zOp a1) (fun r => ML r ∧ r.fg3 = true ∧ VJ a0 r)
abbrev MP : Prop := ∀ {a0 a1}, Nx (Wl a0 a1) (UC a0 ∧ zSe a1) (fun r => ML r.1 ∧ (r.2.fd1.length = 4 ∧ r.2.ff7.length = 4 ∧ ∀ y ∈ r.2.fd1, zSn y) ∧ (r.2.fOp = a1.fOp ∧ r.2.fa = a1.fa ∧ r.2.ff6 = a1.ff6 ∧ r.2.fd8 = a1.fd8) ∧ (a1.fOp.fa0 = 6 → r.1.fa.fd7 ≤ (a1.fOp.fb3.length : Int)) ∧ VJ a0 r.1 ∧ StP a0 a1 r.1)
abbrev Ld : Prop := ∀ {a0}, Nx (JE a0) (True) (fun r => Qs5 r)
abbrev F2 : Prop := ∀ {a0}, Nx (Zo a0) (True) (fun r => r.size ≤ 16)
abbrev UZ : Prop := ∀ {a0}, Nx (Vq a0) (True) (fun r => zPa r)
abbrev C9 : Prop := ∀ {a0 a1}, Nx (VM a0 a1) (0 ≤ a1) (fun r => True)
abbrev MQ : Prop := ∀ {a0}, Nx (W1 a0) (True) (fun r => r.length = 6 ∧ ∀ x ∈ r, zEv x)
abbrev EB : Prop := ∀ {a0}, Nx (Yp a0) (True) (fun r => r.size ≤ 32)
abbrev DF : Prop := ∀ {a0}, Nx (Xb a0) (True) (fun r => True)
abbrev Ie : Prop := ∀ {a0}, Nx (U9 a0) (True) (fun r => zI r)
abbrev DG : Prop := ∀ {a0 a1}, Nx (Ya a0 a1) (0 ≤ a1 ∧ a1 ≤ 100) (fun r => (r.length : Int) = a1 ∧ ∀ x ∈ r, zI x)
abbrev DI : Prop := ∀ {a0}, Nx (Vs a0) (True) (fun r => r.length ≤ 4)
abbrev H0 : Prop := ∀ {a0 a1}, Nx (W5 a0 a1) (a1.length ≤ 1000000 ∧ bB a1 ∧ oB a0) (fun r => (r.length ≤ a1.length + 20 ∧ bB r) ∧ FrP a0 a1 r)
abbrev FP : Prop := ∀ {a0}, Nx (Yq a0) (zS a0) (fun r => (r.length ≤ 80000 ∧ bB r) ∧ Gd r)
abbrev If : Prop := ∀ {a0 a1 a2}, Nx (Ub a0 a1 a2) ((a1.length ≤ 1000 ∧ ∀ x ∈ a1, zI x) ∧ a2.length ≤ 2000000 ∧ zPa a0) (fun r => zS r)
abbrev FQ : Prop := ∀ {a0}, Nx (Yv a0) (True) (fun r => zS r)
abbrev NE : Prop := ∀ {a0 a1}, Nx (AN a0 a1) (0 ≤ a1 ∧ a1 ≤ 1000) (fun r => zOn 1000000 r)
abbrev De : Prop := ∀ {a0}, Nx (VU a0) (0 ≤ a0) (fun r => True)
abbrev H1 : Prop := ∀ {a0 a1}, Nx (W8 a0 a1) (zOn 1000000 a0 ∧ (a1 % 32 = 12 ∨ a1 % 32 = 13)) (fun r => zOn 1000000 r)
abbrev Le : Prop := ∀ {a0 a1 a2}, Nx (Yw a0 a1 a2) (a1 ≠ 0 ∧ (0 ≤ a2 ∧ a2 ≤ 1000)) (fun r => (r.length : Int) = a2 ∧ ∀ x ∈ r, zEv x)
end Go.Proofs.YtimfmcpbkdpmoaaGreat
