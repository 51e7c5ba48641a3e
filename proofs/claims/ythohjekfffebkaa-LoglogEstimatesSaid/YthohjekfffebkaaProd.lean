/- The walk of the reference's product of two words. Conditions: numbers below 2^63. -/
import Derived.Test.YthohjekfffebkaaM64
namespace Go.Proofs.Ythohjekfffebkaa
open Go.RowKit Go.ChangeShapes Go.WideShapes
set_option linter.unusedVariables false
set_option linter.unusedSimpArgs false
theorem prod_low {s q r p mid P : Nat} (hP : P = s * 18446744073709551616 + (q + r) * 4294967296 + p) (hm : mid = p / 4294967296 + q % 4294967296 + r % 4294967296) (hp : p < 18446744073709551616) (hq : q ≤ 18446744065119617025) (hr : r ≤ 18446744065119617025) (hs : s ≤ 18446744065119617025) :
    s + q / 4294967296 + r / 4294967296 + mid / 4294967296 = P / 18446744073709551616 ∧ mid % 4294967296 * 4294967296 + p % 4294967296 = P % 18446744073709551616 := by omega
theorem wrap_prod {X Y : Int} {n : Nat} (h : X * Y = (n : Int)) (hn : n < 18446744073709551616) : IntKind.u64.wrap (X * Y) = (n : Int) := by rw [h, IntKind.wrap_u64]; omega
set_option maxRecDepth 100000 in
set_option maxHeartbeats 3200000 in
theorem product_any (x y : Nat) (hx : x < 9223372036854775808) (hy : y < 9223372036854775808) (w : World) :
    Calls Try.prog 61 #[.int .u64 x, .int .u64 y] w fun e w' => e = .returned (.agg #[.int .u64 ((x * y / 18446744073709551616 : Nat) : Int), .int .u64 ((x * y % 18446744073709551616 : Nat) : Int)]) ∧ w.grownBy w' none := by
  have e : x * y = (x / 4294967296) * (y / 4294967296) * 18446744073709551616 + ((x / 4294967296) * (y % 4294967296) + (x % 4294967296) * (y / 4294967296)) * 4294967296 + (x % 4294967296) * (y % 4294967296) := by
    have := Lib.split_mul (x / 4294967296) (x % 4294967296) (y / 4294967296) (y % 4294967296) 4294967296
    rw [Nat.div_add_mod' x 4294967296, Nat.div_add_mod' y 4294967296] at this
    omega
  have ha := Lib.half_mul_le (a := x / 4294967296) (b := y / 4294967296) (by omega) (by omega)
  have hb := Lib.half_mul_le (a := x / 4294967296) (b := y % 4294967296) (by omega) (by omega)
  have hc := Lib.half_mul_le (a := x % 4294967296) (b := y / 4294967296) (by omega) (by omega)
  have hd := Lib.half_mul_le (a := x % 4294967296) (b := y % 4294967296) (by omega) (by omega)
  obtain ⟨p, hp⟩ : ∃ p, p = x % 4294967296 * (y % 4294967296) := ⟨_, rfl⟩
  obtain ⟨q, hq⟩ : ∃ q, q = x / 4294967296 * (y % 4294967296) := ⟨_, rfl⟩
  obtain ⟨r, hr⟩ : ∃ r, r = x % 4294967296 * (y / 4294967296) := ⟨_, rfl⟩
  obtain ⟨s, hs⟩ : ∃ s, s = x / 4294967296 * (y / 4294967296) := ⟨_, rfl⟩
  rw [← hp, ← hq, ← hr, ← hs] at e
  rw [← hp] at hd
  rw [← hq] at hb
  rw [← hr] at hc
  rw [← hs] at ha
  have wp : IntKind.u64.wrap ((x : Int) % 4294967296 * ((y : Int) % 4294967296)) = (p : Int) := wrap_prod (by rw [hp]; simp) (by omega)
  have wq : IntKind.u64.wrap ((x : Int) / 4294967296 * ((y : Int) % 4294967296)) = (q : Int) := wrap_prod (by rw [hq]; simp) (by omega)
  have wr : IntKind.u64.wrap ((x : Int) % 4294967296 * ((y : Int) / 4294967296)) = (r : Int) := wrap_prod (by rw [hr]; simp) (by omega)
  have ws : IntKind.u64.wrap ((x : Int) / 4294967296 * ((y : Int) / 4294967296)) = (s : Int) := wrap_prod (by rw [hs]; simp) (by omega)
  clear hp hq hr hs
  obtain ⟨l1, l2⟩ := prod_low (P := x * y) e rfl (by omega) hb hc ha
  have hor : bits BinOp.or IntKind.u64 (IntKind.u64.wrap (((p : Int) / 4294967296 + (q : Int) % 4294967296 + (r : Int) % 4294967296) * 4294967296)) ((p : Int) % 4294967296) = ((x * y % 18446744073709551616 : Nat) : Int) := by
    rw [← l2, IntKind.wrap_u64]
    have h := bits_join .u64 64 (by decide) (fun n a b => by rw [IntKind.wrap_u64]; omega) 32 ((((p : Int) / 4294967296 + (q : Int) % 4294967296 + (r : Int) % 4294967296) * 4294967296) % 18446744073709551616) ((p : Int) % 4294967296) (by omega) (by omega) (by omega) (by omega) (by omega) (by omega)
    rw [h]
    omega
  have hl1 : ((s / 1 : Nat) : Int) + (q : Int) / 4294967296 + (r : Int) / 4294967296 + ((p : Int) / 4294967296 + (q : Int) % 4294967296 + (r : Int) % 4294967296) / 4294967296 = ((x * y / 18446744073709551616 : Nat) : Int) := by rw [← l1]; omega
  have hbb : (s : Int) + (q : Int) / 4294967296 + (r : Int) / 4294967296 + ((p : Int) / 4294967296 + (q : Int) % 4294967296 + (r : Int) % 4294967296) / 4294967296 ≤ 18446744073709551615 := by
    have : x * y / 18446744073709551616 < 18446744073709551616 := by omega
    omega
  simp only [Nat.div_one] at hl1
  generalize x * y / 18446744073709551616 = H at *
  generalize x * y % 18446744073709551616 = L at *
  have HL := Lib.hid hl1
  clear l1 l2 hl1 e
  have kx : bits .and .u64 (x : Int) 4294967295 = (x : Int) % 4294967296 := (M64.maskN x (by omega)).trans (by simp)
  have ky : bits .and .u64 (y : Int) 4294967295 = (y : Int) % 4294967296 := (M64.maskN y (by omega)).trans (by simp)
  have kp : bits .and .u64 (p : Int) 4294967295 = (p : Int) % 4294967296 := (M64.maskN p (by omega)).trans (by simp)
  have kq : bits .and .u64 (q : Int) 4294967295 = (q : Int) % 4294967296 := (M64.maskN q (by omega)).trans (by simp)
  have kr : bits .and .u64 (r : Int) 4294967295 = (r : Int) % 4294967296 := (M64.maskN r (by omega)).trans (by simp)
  go_enter Try.func61, Try.ntmps61
  go_wp2_with fail
  rw [HL.out]
  refine bodyPost_ret (v := .agg #[.int .u64 H, .int .u64 L]) ?_ rfl ⟨rfl, grown_alloc _ _⟩
  simp [results, Try.results61, go_sem]
end Go.Proofs.Ythohjekfffebkaa
