/- The walk of Estimate. Conditions: registers are Go's ints. -/
import Derived.Test.YthohjekfffebkaaLlG
import Derived.Test.YthohjekfffebkaaDivA
namespace Go.Proofs.Ythohjekfffebkaa
open Go.RowKit Go.ChangeShapes Go.WideShapes
set_option linter.unusedVariables false
set_option linter.unusedSimpArgs false
/-- The weight of a register. -/
def zf (x : Int) : Nat := 1125899906842624 / 2 ^ x.toNat
def zS (l : List Int) (k : Nat) : Nat := ((l.take k).map zf).foldr (· + ·) 0
def anyR (l : List Int) (k : Nat) : Bool := (l.take k).any (fun x => decide (x > 0))
theorem foldr_snoc (l : List Nat) (x : Nat) : (l ++ [x]).foldr (· + ·) 0 = l.foldr (· + ·) 0 + x := by
  induction l with
  | nil => simp
  | cons a l ih => simp only [List.cons_append, List.foldr_cons, ih]; omega
theorem zS_succ {l : List Int} {k : Nat} (h : k < l.length) : zS l (k + 1) = zS l k + zf (gI l k) := by
  unfold zS; rw [take_succ_gI h, List.map_append, List.map_singleton, foldr_snoc]
theorem anyR_succ {l : List Int} {k : Nat} (h : k < l.length) : anyR l (k + 1) = (anyR l k || decide (gI l k > 0)) := by
  unfold anyR; rw [take_succ_gI h, List.any_append]; simp
theorem zf_le (x : Int) : zf x ≤ 1125899906842624 := Nat.div_le_self _ _
theorem zS_le (l : List Int) (k : Nat) (h : k ≤ l.length) : zS l k ≤ k * 1125899906842624 := by
  induction k with
  | zero => unfold zS; simp
  | succ k ih =>
    have h1 := ih (by omega)
    have h2 := zf_le (gI l k)
    rw [zS_succ (by omega)]
    omega
def wtN (p : Int) : Nat := if p = 2 then 541000 else if p = 3 then 627000 else if p = 4 then 673000 else if p = 5 then 697000 else if p = 6 then 709000 else if p = 7 then 715270 else 718271
theorem wtN_le (p : Int) : wtN p ≤ 718271 := by unfold wtN; repeat' split
                                                all_goals omega
/-- The estimate before the bound. -/
def esN (p : Int) (l : List Int) : Nat := wtN p * l.length * l.length * 1125899906842624 / max (zS l l.length) 1
def llR (p : Int) (l : List Int) : Int := if llE p l ≠ 0 then 0 else if anyR l l.length = false then 0 else if esN p l / 1000000 > 1099511627776 then 1099511627776 else ((esN p l / 1000000 : Nat) : Int)
theorem two_div {H w y B : Nat} (hy : 0 < y) : H / y * B + (H % y * B + w) / y = (H * B + w) / y := by
  have h := Nat.div_add_mod H y
  have e : H * B + w = (H % y * B + w) + y * (H / y * B) := by
    conv => lhs; rw [← h]
    rw [Nat.add_mul, Nat.mul_assoc]
    omega
  rw [e, Nat.add_mul_div_left _ _ hy, Nat.add_comm]
theorem mod_lt_word {H w y B : Nat} (hy : 0 < y) (hw : w < B) : (H % y * B + w) / y < B := by
  apply Nat.div_lt_of_lt_mul
  have h := Nat.mul_le_mul_right B (show H % y + 1 ≤ y from Nat.mod_lt _ hy)
  rw [Nat.add_mul] at h
  omega
theorem weight_any (p : Int) (w : World) (hp : pOK p) : Calls Try.prog 45 #[.int .i64 p] w fun e w' => e = .returned (.int .u64 (wtN p)) ∧ w = w' := by
  obtain ⟨h1, h2⟩ := hp
  have : p = 2 ∨ p = 3 ∨ p = 4 ∨ p = 5 ∨ p = 6 ∨ p = 7 ∨ p = 8 := by omega
  rcases this with rfl | rfl | rfl | rfl | rfl | rfl | rfl
  all_goals
    go_enter Try.func45, Try.ntmps45
    go_wp2
    go_ret
    exact ⟨rfl, rfl⟩
theorem est_H (X : Nat) (h : X ≤ 47072608256) : X * 1125899906842624 / 18446744073709551616 ≤ 2873084 := by
  refine Nat.div_le_of_le_mul ?_
  have h1 : (18446744073709551616 : Nat) = 16384 * 1125899906842624 := by decide
  rw [h1, Nat.mul_right_comm]
  refine Nat.mul_le_mul_right _ ?_
  omega
theorem est_facts (W m Z : Nat) (hw : W ≤ 718271) (hm : m ≤ 256) (hz : Z ≤ 288230376151711744) :
    ∃ Z1 X1 X2 H L A R B A2 R2 D : Nat, IntKind.u64.wrap ((W : Int) * m) = X1 ∧ IntKind.u64.wrap ((X1 : Int) * m) = X2 ∧ X2 < 18446744073709551616 ∧ H = X2 * 1125899906842624 / 18446744073709551616 ∧ L = X2 * 1125899906842624 % 18446744073709551616 ∧ L < 18446744073709551616 ∧
      (H : Int) / Z1 = A ∧ (H : Int) % Z1 = R ∧ R < Z1 ∧ 1 ≤ Z1 ∧ Z1 ≤ 288230376151711744 ∧ max (Z : Int) 1 = Z1 ∧ B = (R * 18446744073709551616 + L) / Z1 ∧ B < 18446744073709551616 ∧ (A : Int) / 1000000 = A2 ∧ (A : Int) % 1000000 = R2 ∧ R2 < 1000000 ∧ D = (R2 * 18446744073709551616 + B) / 1000000 ∧ D < 18446744073709551616 ∧
      A ≤ 2873084 ∧ A2 ≤ 2873084 ∧ W * m * m * 1125899906842624 / max Z 1 / 1000000 = A2 * 18446744073709551616 + D := by
  have hb1 : W * m ≤ 183877376 := Nat.mul_le_mul hw hm
  have hb2 : W * m * m ≤ 47072608256 := Nat.mul_le_mul hb1 hm
  obtain ⟨X1, hX1⟩ : ∃ X, X = W * m := ⟨_, rfl⟩
  obtain ⟨X2, hX2⟩ : ∃ X, X = W * m * m := ⟨_, rfl⟩
  rw [← hX1] at hb1
  rw [← hX2] at hb2
  obtain ⟨Z1, hZ1⟩ : ∃ Z1, Z1 = max Z 1 := ⟨_, rfl⟩
  have hZ2 : 1 ≤ Z1 ∧ Z1 ≤ 288230376151711744 := by omega
  obtain ⟨P, hP⟩ : ∃ P, P = X2 * 1125899906842624 := ⟨_, rfl⟩
  have hHb0 : P / 18446744073709551616 ≤ 2873084 := by rw [hP]; exact est_H X2 hb2
  have HP := Lib.hid hP
  clear hP
  obtain ⟨H, hH⟩ : ∃ H, H = P / 18446744073709551616 := ⟨_, rfl⟩
  obtain ⟨L, hL⟩ : ∃ L, L = P % 18446744073709551616 := ⟨_, rfl⟩
  have hp : P = H * 18446744073709551616 + L := by omega
  have hL2 : L < 18446744073709551616 := by omega
  have hHb : H ≤ 2873084 := by rw [hH]; exact hHb0
  have hRl : H % Z1 < Z1 := Nat.mod_lt _ (by omega)
  have hAl : H / Z1 ≤ 2873084 := Nat.le_trans (Nat.div_le_self _ _) hHb
  have hBl : (H % Z1 * 18446744073709551616 + L) / Z1 < 18446744073709551616 := mod_lt_word (by omega) hL2
  have t1 := two_div (H := H) (w := L) (y := Z1) (B := 18446744073709551616) (by omega)
  have hDl := mod_lt_word (H := H / Z1) (w := (H % Z1 * 18446744073709551616 + L) / Z1) (y := 1000000) (B := 18446744073709551616) (by decide) hBl
  have t2 := two_div (H := H / Z1) (w := (H % Z1 * 18446744073709551616 + L) / Z1) (y := 1000000) (B := 18446744073709551616) (by decide)
  rw [t1, ← hp] at t2
  refine ⟨Z1, X1, X2, H, L, H / Z1, H % Z1, _, H / Z1 / 1000000, H / Z1 % 1000000, _, ?_, ?_, by omega, by rw [← HP.out]; exact hH, by rw [← HP.out]; exact hL, hL2, (Int.natCast_ediv _ _).symm, (Int.natCast_emod _ _).symm, hRl, hZ2.1, hZ2.2, by omega, rfl, hBl, by omega, by omega, Nat.mod_lt _ (by decide), rfl, hDl, hAl, by omega, ?_⟩
  · rw [M64.mulN, ← hX1]; exact M64.wrapN _ (by omega)
  · rw [M64.mulN, hX1, ← hX2]; exact M64.wrapN _ (by omega)
  · rw [t2, HP.out, hX2, hZ1]
set_option maxRecDepth 100000 in
set_option maxHeartbeats 1600000 in
theorem llest_any (p z : Int) (v : Value) (l : List Int) (w : World) (hv : Ints .i64 w v l) :
    Calls Try.prog 23 #[.agg #[.int .i64 p, .int .u64 z, v]] w fun e w' => e = .returned (.tuple #[.int .i64 (llR p l), .int .i64 (llE p l)]) ∧ w.grownBy w' none := by
  have C1 := Lib.hid (fun w (h : Ints .i64 w v l) => llvalid_any p z v l w h)
  have HV := Lib.hid hv
  obtain ⟨a, cap, rfl, -, -, -, -⟩ := id hv
  by_cases hE : llE p l = 0
  · obtain ⟨hs, hl, hg⟩ := llE_ok hE
    have hp2 := p2_in hs
    have hR : llR p l = if anyR l l.length = false then 0 else if esN p l / 1000000 > 1099511627776 then 1099511627776 else ((esN p l / 1000000 : Nat) : Int) := by unfold llR; rw [if_neg (by simpa using hE)]
    have hes : esN p l = wtN p * l.length * l.length * 1125899906842624 / max (zS l l.length) 1 := rfl
    generalize llR p l = RR at *
    rw [hE] at C1 ⊢
    have HS := Lib.hid hs
    have HG := Lib.hid hg
    have HR := Lib.hid hR
    have HES := Lib.hid hes
    have hpos : 0 < l.length := by omega
    have hl256 : l.length ≤ 256 := by omega
    obtain ⟨q1, q2⟩ : 2 ≤ p ∧ p ≤ 8 := hs
    obtain ⟨bl, off, rfl, hbl, hcl⟩ := hv.at hpos
    have HC := Lib.hid hcl
    clear hE hl hg hR hes hcl hv
    go_enter Try.func23, Try.ntmps23
    go_wp2_with fail
    refine (C1.out _ (HV.out.grown (grown_alloc _ _))).mono ?_
    rintro e w1 ⟨rfl, g1⟩
    have G1 := (grown_alloc _ _).trans' g1
    have c1 := (Blk.new w _ _).keep g1
    clear g1
    obtain ⟨c10, c11, c12, c13⟩ := c1.at3
    go_wp2_with fail
    go_loop [5, 6, 8, 27] (fun sv zv _ i => ∃ k : Nat, k ≤ l.length ∧ i = .int .i64 k ∧ sv = .bool (anyR l k) ∧ zv = .int .u64 (zS l k)) (fun _ _ _ i => l.length - (intOf i).toNat)
    case atStart => exact ⟨0, by omega, rfl, rfl, rfl⟩
    case round =>
      obtain ⟨k, hk, rfl, rfl, rfl⟩ := hrel
      have hzl := zS_le l k hk
      by_cases hlt : k < l.length
      · have y := kcell G1 (HC.out k hlt) hbl
        have hx := HG.out _ (gI_mem hlt)
        have hz1 := zS_succ hlt
        have ha1 := anyR_succ hlt
        have hzf : (1125899906842624 : Int) / 2 ^ (gI l k).toNat = (zf (gI l k) : Int) := by unfold zf; rw [Int.natCast_ediv, Int.natCast_pow]; rfl
        have hzb := zf_le (gI l k)
        generalize gI l k = x at *
        obtain ⟨Z1, hZ1⟩ : ∃ Z, Z = zS l (k + 1) := ⟨_, rfl⟩
        obtain ⟨A1, hA1⟩ : ∃ A, A = anyR l (k + 1) := ⟨_, rfl⟩
        rw [← hZ1] at hz1
        rw [← hA1] at ha1
        have HZ1 := Lib.hid hZ1
        have HA1 := Lib.hid hA1
        generalize zS l k = Z0 at *
        generalize anyR l k = A0 at *
        generalize zf x = F at *
        have e1 : (k : Int) < l.length := by omega
        have e2 : (0 : Int) ≤ k := by omega
        have e3 : 0 ≤ x := hx.1
        have e4 : x ≤ 63 := by omega
        have hzz : ((Z0 : Int) + F) = Z1 := by omega
        have HZZ := Lib.hid hzz
        have HAA := Lib.hid ha1
        clear hx hZ1 hA1 hz1 ha1
        by_cases hxp : x > 0
        · cases A0
          all_goals
            go_wp2
            go_round
            case rel => exact ⟨k + 1, by omega, by go_num, by rw [← HA1.out, HAA.out]; simp [hxp], by rw [← HZ1.out]⟩
            case measure => simp [intOf]; omega
        · cases A0
          all_goals
            go_wp2
            go_round
            case rel => exact ⟨k + 1, by omega, by go_num, by rw [← HA1.out, HAA.out]; simp [hxp], by rw [← HZ1.out]⟩
            case measure => simp [intOf]; omega
      · obtain rfl : k = l.length := by omega
        generalize zS l l.length = Z at *
        obtain ⟨A, hA⟩ : ∃ A, A = anyR l l.length := ⟨_, rfl⟩
        rw [← hA] at HR ⊢
        clear hA
        cases A
        · have HM : Hid (RR = 0) := by show _ = _; rw [HR.out, if_pos rfl]
          clear HR HES
          go_wp2
          go_ret2
          rw [HM.out]
          exact ⟨rfl, G1⟩
        · have hR2 : RR = if esN p l / 1000000 > 1099511627776 then 1099511627776 else ((esN p l / 1000000 : Nat) : Int) := by rw [HR.out, if_neg (by simp)]
          have hes := HES.out
          have hw := wtN_le p
          have CW := Lib.hid (fun w => weight_any p w HS.out)
          generalize wtN p = W at *
          obtain ⟨Z1, X1, X2, H, L, A, R, B, A2, R2, D, e1, e2, hX2, hH, hL, hL2, a1, a2, hRl, hZ1, hZ2, hmx, hB, hBl, a3, a4, hR2l, hDd, hDl, hAl, hA2l, hE⟩ := est_facts W l.length Z hw hl256 (by omega)
          have hR3 : RR = if A2 * 18446744073709551616 + D > 1099511627776 then 1099511627776 else ((A2 * 18446744073709551616 + D : Nat) : Int) := by
            rw [hR2, hes, hE]
          have CM : ∀ w : World, Calls Try.prog 44 #[.int .u64 X2, .int .u64 1125899906842624] w fun e w' => e = .returned (.tuple #[.int .u64 (H : Int), .int .u64 (L : Int)]) ∧ w = w' := fun w => by
            rw [hH, hL]; exact mul64_any X2 1125899906842624 hX2 (by decide) w
          have D1 := Lib.hid (fun w => div64_all R L Z1 w hRl (by omega) hL2)
          rw [← hB] at D1
          have D2 := Lib.hid (fun w => div64_all R2 B 1000000 w hR2l (by decide) hBl)
          rw [← hDd] at D2
          have CM' := Lib.hid CM
          have HR2 := Lib.hid hR3
          have hzz : ((Z1 : Int) == 0) = false := beq_eq_false_iff_ne.2 (by omega)
          clear hes hH hL hB hDd hE hR2 hR3 CM HR HES
          go_wp2_with fail
          refine (CW.out _).mono ?_
          rintro e w2 ⟨rfl, rfl⟩
          go_wp2_with fail
          refine (CM'.out _).mono ?_
          rintro e w2 ⟨rfl, rfl⟩
          go_wp2_with fail
          go_quiet (fail)
          go_wp2_with fail
          refine (D1.out _).mono ?_
          rintro e w3 ⟨r1, rfl, g3⟩
          go_wp2_with fail
          refine (D2.out _).mono ?_
          rintro e w4 ⟨r2, rfl, g4⟩
          have GG := (G1.trans' (grown_drew _)).trans' (g3.trans' g4)
          by_cases hA20 : A2 > 0
          · have hM : Hid (RR = 1099511627776) := by show _ = _; rw [HR2.out, if_pos (by omega)]
            have hA21 : (A2 : Int) > 0 := by omega
            clear HR2
            go_wp2
            go_ret2
            rw [hM.out]
            exact ⟨rfl, GG⟩
          · have hA21 : ¬ (A2 : Int) > 0 := by omega
            by_cases hDD : (D : Int) > 1099511627776
            · have hM : Hid (RR = 1099511627776) := by show _ = _; rw [HR2.out, if_pos (by omega)]
              clear HR2
              go_wp2
              go_ret2
              rw [hM.out]
              exact ⟨rfl, GG⟩
            · have hM : Hid (RR = D) := by show _ = _; rw [HR2.out, if_neg (by omega)]; congr 1; omega
              clear HR2
              go_wp2
              go_ret2
              rw [hM.out]
              exact ⟨rfl, GG⟩
  · have HM : Hid (llR p l = 0) := by show _ = _; unfold llR; rw [if_pos hE]
    rw [HM.out]
    generalize llE p l = E at *
    have hb1 : (E != 0) = true := by rw [bne_iff_ne]; exact hE
    clear hE hv HM
    go_enter Try.func23, Try.ntmps23
    go_wp2_with fail
    refine (C1.out _ (HV.out.grown (grown_alloc _ _))).mono ?_
    rintro e w1 ⟨rfl, g1⟩
    go_wp2
    go_ret2
    exact ⟨rfl, (grown_alloc _ _).trans' g1⟩
end Go.Proofs.Ythohjekfffebkaa
