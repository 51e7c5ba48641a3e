/- The walk of the reference's Estimate. Conditions: registers are Go's ints. -/
import Derived.Test.YthohjekfffebkaaLlS
import Derived.Test.YthohjekfffebkaaMdR
namespace Go.Proofs.Ythohjekfffebkaa
open Go.RowKit Go.ChangeShapes Go.WideShapes
set_option linter.unusedVariables false
set_option linter.unusedSimpArgs false
theorem zf_shift {x : Int} (h0 : 0 ≤ x) (h1 : x ≤ 50) : wrap64 (2 ^ (50 - x).toNat) = (zf x : Int) := by
  obtain ⟨k, rfl⟩ : ∃ k : Nat, x = k := ⟨x.toNat, by omega⟩
  have e : (50 - (k : Int)).toNat = 50 - k := by omega
  have h2 : 2 ^ (50 - k) * 2 ^ k = 1125899906842624 := by rw [← Nat.pow_add, show 50 - k + k = 50 by omega]
  have h3 : zf k = 2 ^ (50 - k) := by
    unfold zf
    rw [Int.toNat_natCast, ← h2, Nat.mul_div_cancel _ (Nat.two_pow_pos k)]
  have h4 : 2 ^ (50 - k) ≤ 2 ^ 50 := Nat.pow_le_pow_right (by decide) (by omega)
  have h5 : (2 : Nat) ^ 50 = 1125899906842624 := by decide
  rw [h5] at h4
  rw [e, h3]
  have h6 : ((2 : Int) ^ (50 - k)) = ((2 ^ (50 - k) : Nat) : Int) := by rw [Int.natCast_pow]; rfl
  rw [h6]
  generalize (2 : Nat) ^ (50 - k) = q at *
  unfold wrap64
  omega
theorem zf_zero {x : Int} (h1 : 50 < x) : zf x = 0 := by
  unfold zf
  apply Nat.div_eq_of_lt
  have : 2 ^ 51 ≤ 2 ^ x.toNat := Nat.pow_le_pow_right (by decide) (by omega)
  exact Nat.lt_of_lt_of_le (by decide) this
theorem ref_facts (W m Z : Nat) (hw : W ≤ 718271) (hm : m ≤ 256) (hz : Z ≤ 288230376151711744) :
    ∃ Z1 X1 X2 E : Nat, wrap64 ((W : Int) * m) = X1 ∧ wrap64 ((X1 : Int) * m) = X2 ∧ X2 < 9223372036854775808 ∧ max (Z : Int) 1 = Z1 ∧ 1 ≤ Z1 ∧ Z1 < 9223372036854775808 ∧ E = X2 * 1125899906842624 / Z1 ∧ W * m * m * 1125899906842624 / max Z 1 = E := by
  have hb1 : W * m ≤ 183877376 := Nat.mul_le_mul hw hm
  have hb2 : W * m * m ≤ 47072608256 := Nat.mul_le_mul hb1 hm
  obtain ⟨X1, hX1⟩ : ∃ X, X = W * m := ⟨_, rfl⟩
  obtain ⟨X2, hX2⟩ : ∃ X, X = W * m * m := ⟨_, rfl⟩
  rw [← hX1] at hb1
  rw [← hX2] at hb2
  obtain ⟨Z1, hZ1⟩ : ∃ Z1, Z1 = max Z 1 := ⟨_, rfl⟩
  refine ⟨Z1, X1, X2, _, ?_, ?_, by omega, by omega, by omega, by omega, rfl, by rw [hX2, hZ1]⟩
  · rw [M64.mulN, ← hX1]; unfold wrap64; omega
  · rw [M64.mulN, hX1, ← hX2]; unfold wrap64; omega
theorem wt_at {p : Int} (hp : pOK p) :
    ∃ k : Nat, p - 2 = k ∧ k < 7 ∧ ∀ h, ([.int .i64 541000, .int .i64 627000, .int .i64 673000, .int .i64 697000, .int .i64 709000, .int .i64 715270, .int .i64 718271] : List Value)[k]'h = .int .i64 (wtN p) := by
  obtain ⟨h1, h2⟩ := hp
  have : p = 2 ∨ p = 3 ∨ p = 4 ∨ p = 5 ∨ p = 6 ∨ p = 7 ∨ p = 8 := by omega
  rcases this with rfl | rfl | rfl | rfl | rfl | rfl | rfl
  · exact ⟨0, rfl, by omega, fun _ => rfl⟩
  · exact ⟨1, rfl, by omega, fun _ => rfl⟩
  · exact ⟨2, rfl, by omega, fun _ => rfl⟩
  · exact ⟨3, rfl, by omega, fun _ => rfl⟩
  · exact ⟨4, rfl, by omega, fun _ => rfl⟩
  · exact ⟨5, rfl, by omega, fun _ => rfl⟩
  · exact ⟨6, rfl, by omega, fun _ => rfl⟩
set_option maxRecDepth 100000 in
set_option maxHeartbeats 1600000 in
theorem llestr_any (p z : Int) (v : Value) (l : List Int) (w : World) (hv : Ints .i64 w v l) :
    Calls Try.prog 24 #[.agg #[.int .i64 p, .int .u64 z, v]] w fun e w' => e = .returned (.tuple #[.int .i64 (llR p l), .int .i64 (llE p l)]) ∧ w.grownBy w' none := by
  have C1 := Lib.hid (fun w (h : Ints .i64 w v l) => llvalidr_any p z v l w h)
  have HV := Lib.hid hv
  obtain ⟨a, cap, rfl, -, -, -, -⟩ := id hv
  by_cases hE : llE p l = 0
  · obtain ⟨hs, hl, hg⟩ := llE_ok hE
    have hp2 := p2_in hs
    have hR : llR p l = if anyR l l.length = false then 0 else if esN p l / 1000000 > 1099511627776 then 1099511627776 else ((esN p l / 1000000 : Nat) : Int) := by unfold llR; rw [if_neg (by simpa using hE)]
    have hes : esN p l = wtN p * l.length * l.length * 1125899906842624 / max (zS l l.length) 1 := rfl
    generalize llR p l = RR at *
    rw [hE] at C1 ⊢
    have HS := Lib.hid hs
    have HG := Lib.hid hg
    have HR := Lib.hid hR
    have HES := Lib.hid hes
    have hpos : 0 < l.length := by omega
    have hl256 : l.length ≤ 256 := by omega
    obtain ⟨q1, q2⟩ : 2 ≤ p ∧ p ≤ 8 := hs
    obtain ⟨bl, off, rfl, hbl, hcl⟩ := hv.at hpos
    have HC := Lib.hid hcl
    clear hE hl hg hR hes hcl hv
    go_enter Try.func24, Try.ntmps24
    go_wp2_with fail
    refine (C1.out _ (HV.out.grown (grown_alloc _ _))).mono ?_
    rintro e w1 ⟨rfl, g1⟩
    have G1 := (grown_alloc _ _).trans' g1
    have c1 := (Blk.new w _ _).keep g1
    clear g1
    obtain ⟨c10, c11, c12, c13⟩ := c1.at3
    go_wp2_with fail
    go_loop [5, 6, 7] (fun zv sv i => ∃ k : Nat, k ≤ l.length ∧ i = .int .i64 k ∧ sv = .bool (!anyR l k) ∧ zv = .int .i64 (zS l k)) (fun _ _ i => l.length - (intOf i).toNat)
    case atStart => exact ⟨0, by omega, rfl, rfl, rfl⟩
    case round =>
      obtain ⟨k, hk, rfl, rfl, rfl⟩ := hrel
      have hzl := zS_le l k hk
      by_cases hlt : k < l.length
      · have y := kcell G1 (HC.out k hlt) hbl
        have hx := HG.out _ (gI_mem hlt)
        have hz1 := zS_succ hlt
        have ha1 := anyR_succ hlt
        have hzf := fun h0 h1 => zf_shift (x := gI l k) h0 h1
        have hzz0 := fun h1 => zf_zero (x := gI l k) h1
        have hF0 : gI l k = 0 → zf (gI l k) = 1125899906842624 := fun h => by rw [h]; decide
        have hzb := zf_le (gI l k)
        generalize gI l k = x at *
        obtain ⟨Z1, hZ1⟩ : ∃ Z, Z = zS l (k + 1) := ⟨_, rfl⟩
        obtain ⟨A1, hA1⟩ : ∃ A, A = anyR l (k + 1) := ⟨_, rfl⟩
        rw [← hZ1] at hz1
        rw [← hA1] at ha1
        have HZ1 := Lib.hid hZ1
        have HA1 := Lib.hid hA1
        generalize zS l k = Z0 at *
        generalize anyR l k = A0 at *
        generalize zf x = F at *
        have e1 : (k : Int) < l.length := by omega
        have e2 : (0 : Int) ≤ k := by omega
        have e3 : 0 ≤ x := hx.1
        have e4 : x ≤ 63 := by omega
        have hzz : ((Z0 : Int) + F) = Z1 := by omega
        have hZ1b : Z1 ≤ 288230376151711744 := by omega
        have HAA := Lib.hid ha1
        clear hx hZ1 hA1 ha1
        by_cases hx50 : x ≤ 50
        · have hsh := hzf e3 hx50
          clear hzf hzz0 hz1
          by_cases hxp : x = 0
          · have HF0 := Lib.hid (hF0 hxp)
            subst hxp
            have HZZ := Lib.hid hzz
            clear hF0 hzz hsh hzb
            cases A0
            all_goals
              go_wp2
              go_round
              case rel => exact ⟨k + 1, by omega, by go_num, by rw [← HA1.out, HAA.out]; simp, by rw [← HZ1.out]; have := HF0.out; have := HZZ.out; congr 1; omega⟩
              case measure => simp [intOf]; omega
          · clear hF0
            have hxb : (x == 0) = false := beq_eq_false_iff_ne.2 hxp
            have hxg : x > 0 := by omega
            have HXG := Lib.hid hxg
            cases A0
            all_goals
              go_wp2
              go_round
              case rel => exact ⟨k + 1, by omega, by go_num, by rw [← HA1.out, HAA.out]; simp [HXG.out], by rw [← HZ1.out]⟩
              case measure => simp [intOf]; omega
        · clear hF0
          obtain rfl := hzz0 (by omega)
          obtain rfl : Z1 = Z0 := by omega
          clear hzf hzz0 hz1 hzz
          have hxb : (x == 0) = false := beq_eq_false_iff_ne.2 (by omega)
          have hxg : x > 0 := by omega
          have HXG := Lib.hid hxg
          cases A0
          all_goals
            go_wp2
            go_round
            case rel => exact ⟨k + 1, by omega, by go_num, by rw [← HA1.out, HAA.out]; simp [HXG.out], by rw [← HZ1.out]⟩
            case measure => simp [intOf]; omega
      · obtain rfl : k = l.length := by omega
        generalize zS l l.length = Z at *
        obtain ⟨A, hA⟩ : ∃ A, A = anyR l l.length := ⟨_, rfl⟩
        rw [← hA] at HR ⊢
        clear hA
        cases A
        · have HM : Hid (RR = 0) := by show _ = _; rw [HR.out, if_pos rfl]
          clear HR HES
          go_wp2
          go_ret2
          rw [HM.out]
          exact ⟨rfl, G1⟩
        · have hR2 : RR = if esN p l / 1000000 > 1099511627776 then 1099511627776 else ((esN p l / 1000000 : Nat) : Int) := by rw [HR.out, if_neg (by simp)]
          have hes := HES.out
          have hw := wtN_le p
          obtain ⟨k7, hk7, hk8, hcw⟩ := wt_at HS.out
          generalize wtN p = W at *
          obtain ⟨Z1, X1, X2, E, e1, e2, hX2, hmx, hZ1, hZ2, hEE, hE⟩ := ref_facts W l.length Z hw hl256 (by omega)
          rw [hes, hE] at hR2
          have D1 := Lib.hid (fun w => mdrN_any X2 1125899906842624 Z1 w hX2 (by decide) hZ1 hZ2)
          unfold mdN at D1
          rw [← hEE] at D1
          have HR2 := Lib.hid hR2
          clear hes hE hR2 HR HES hEE
          clear c10 c11 c12 c13
          obtain ⟨c10, c11, c12⟩ := c1.ev3
          have ga : ∀ (w : World) (o : Obj), w.grownBy (w.alloc o) none := grown_alloc
          have gr := grown_refl w1
          have hk9 : (k7 : Int) < 7 := by omega
          have hk10 : (0 : Int) ≤ k7 := by omega
          by_cases hEb : E > 4611686018427387904
          · have hM : Hid (RR = 1099511627776) := by show _ = _; rw [HR2.out, if_pos (by omega)]
            rw [if_pos hEb] at D1
            clear HR2 hEb
            go_wp2_with fail
            refine (D1.out _).mono ?_
            rintro e w3 ⟨rfl, g3⟩
            have GG := (G1.trans' (grown_alloc _ _)).trans' g3
            go_wp2
            go_ret2
            rw [hM.out]
            exact ⟨rfl, GG⟩
          · rw [if_neg hEb] at D1
            obtain ⟨N6, hN6⟩ : ∃ n, n = E / 1000000 := ⟨_, rfl⟩
            have a1 : (E : Int) / 1000000 = N6 := by omega
            have hmn : min (N6 : Int) 1099511627776 = RR := by
              rw [HR2.out, ← hN6]; split <;> omega
            have hN7 : N6 ≤ 4611686018427387904 := by omega
            clear HR2 hN6
            go_wp2_with fail
            refine (D1.out _).mono ?_
            rintro e w3 ⟨rfl, g3⟩
            have GG := (G1.trans' (grown_alloc _ _)).trans' g3
            go_wp2
            go_ret2
            exact ⟨rfl, GG⟩
  · have HM : Hid (llR p l = 0) := by show _ = _; unfold llR; rw [if_pos hE]
    rw [HM.out]
    generalize llE p l = E at *
    have hb1 : (E != 0) = true := by rw [bne_iff_ne]; exact hE
    clear hE hv HM
    go_enter Try.func24, Try.ntmps24
    go_wp2_with fail
    refine (C1.out _ (HV.out.grown (grown_alloc _ _))).mono ?_
    rintro e w1 ⟨rfl, g1⟩
    go_wp2
    go_ret2
    exact ⟨rfl, (grown_alloc _ _).trans' g1⟩
end Go.Proofs.Ythohjekfffebkaa
