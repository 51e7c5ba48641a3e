/- The walks of the reference's Split and of Join. Conditions: at most a thousand bytes, or a bound on the bytes. -/
import Derived.Test.YtogeclmpfbecoaaPgB
namespace Go.Proofs.Ytogeclmpfbecoaa
open Go.RowKit Go.ChangeShapes Go.WideShapes
set_option linter.unusedVariables false
set_option linter.unusedSimpArgs false
set_option maxRecDepth 100000 in
set_option maxHeartbeats 3200000 in
theorem splitr_any (v : Value) (l : List Int) (s : Int) (w : World) (hv : Ints .u8 w v l) (hl : l.length ≤ 1000) :
    Calls Try.prog 9 #[v, .int .i64 s] w fun e w' => ∃ v', e = .returned (.tuple #[v', .int .i64 (splitE s)]) ∧ Pgs w' v' (splitL l s) ∧ w.grownBy w' none := by
  have HV := Lib.hid hv
  obtain ⟨a, cap, rfl⟩ := hv.shape
  obtain ⟨a', cap', e', q1, q2, q3, _⟩ := hv
  cases e'
  by_cases hs : 1 ≤ s ∧ s ≤ 1024
  · have HE : Hid (splitE s = 0) := by show _ = _; unfold splitE; rw [if_neg (by omega)]
    have HL : Hid (splitL l s = splitN l s.toNat (ceilD l.length s).toNat) := by show _ = _; unfold splitL; rw [if_neg (by omega)]
    obtain ⟨S, rfl⟩ := Int.eq_ofNat_of_zero_le (show 0 ≤ s by omega)
    have hr := ceilD_range (a := l.length) (b := S) (by omega) (by omega)
    have hlt := fun k : Nat => ceilD_lt (a := l.length) (b := S) (by omega) k
    generalize hK : ceilD l.length S = K at *
    clear hK
    obtain ⟨N, rfl⟩ := Int.eq_ofNat_of_zero_le hr.1
    have hN : N ≤ 1000 := by omega
    have hS : 1 ≤ S ∧ S ≤ 1024 := by omega
    have HLT := Lib.hid hlt
    clear hlt hr hs
    simp only [Int.toNat_natCast] at HL
    have HW := Lib.hid q3
    clear q3
    go_enter Try.func9, Try.ntmps9
    go_wp2_with fail
    go_loopw [6, 7] (fun v i wr => ∃ k : Nat, k ≤ N ∧ i = .int .i64 ((k * S : Nat) : Int) ∧ PgOwn wr w.heap.size 22 v (splitN l S k) ∧ w.grownBy wr none) (fun _ i _ => 3000 - (intOf i).toNat)
    case atStart => exact ⟨0, by omega, by simp, PgOwn.nil _ _ _, grown_refl _⟩
    case round =>
      obtain ⟨k, hk, rfl, hP, hg⟩ := hrel
      by_cases hkN : k < N
      · have h1 := (HLT.out k).1 (by omega)
        have h1' : k * S < l.length := by have : ((k * S : Nat) : Int) < l.length := by simpa using h1
                                          omega
        have h2 : (k + 1) * S = k * S + S := by rw [Nat.add_mul, Nat.one_mul]
        have H2 := Lib.hid h2
        have hpg : (l.drop (k * S)).take (min (k * S + S) l.length - k * S) = pageL l S k := by
          unfold pageL
          by_cases h : k * S + S ≤ l.length
          · rw [Nat.min_eq_left h, Nat.add_sub_cancel_left]
          · rw [Nat.min_eq_right (by omega), List.take_of_length_le (by rw [List.length_drop]; omega), List.take_of_length_le (by rw [List.length_drop]; omega)]
        obtain ⟨y, hy⟩ : ∃ y, y = min (k * S + S) l.length := ⟨_, rfl⟩
        rw [← hy] at hpg
        have hmn : k * S ≤ y ∧ y ≤ l.length := by omega
        obtain ⟨vs, hown, hvl, hel⟩ := hP
        have hvn : vs.length = k := by rw [hvl, length_splitN]
        have HK1 : Hid (((k + 1) * S : Nat) = k * S + S) := h2
        clear h1 h2 H2
        generalize k * S = x at *
        have hsz := hg.size
        have hib := ints_cut2 HV.out hmn.1 hmn.2
        rw [hpg, if_neg (by omega)] at hib
        have hpl : (pageL l S k).length = y - x := by rw [← hpg, List.length_take, List.length_drop]; omega
        have hwp : ∀ n ∈ pageL l S k, (Lit.int .u8 n).wf = true := by rw [← hpg]; exact fun n hn => HW.out n (List.mem_of_mem_drop (List.mem_of_mem_take hn))
        have HWP := Lib.hid hwp
        have HEL := Lib.hid hel
        have HVL := Lib.hid hvl
        have HSP := Lib.hid (splitN_succ l S k)
        have hpy : y - x ≤ 1000 := by omega
        have HVN := Lib.hid hvn
        have hvs : vs.length ≤ 1000 := by omega
        have hsrc := (hib.grown hg).src (P := Try.prog) Try.underlying22
        rw [hpl] at hsrc
        clear hpg hib hwp hel hvl hvn
        have hx1000 : x ≤ 1000 := by omega
        have hcase : (x + S ≤ l.length ∧ y - x = x + S - x) ∨ (l.length < x + S ∧ y - x = l.length - x) := by omega
        clear hy
        rcases hcase with ⟨hy2, hD⟩ | ⟨hy2, hD⟩
        all_goals
          rw [hD] at hsrc hpl hpy
          have HSRC := Lib.hid hsrc
          have HPL := Lib.hid hpl
          clear hsrc hpl hD
          go_wp2_with (at_builtin; refine wpList_appS _ rfl _ _ 22 22 rfl wr.heap.size 5 (.int .u8 0) 1 1 Try.underlying22 Try.infoU8 rfl (by decide) _ _ 0 _ [] _ (World.ownsRow_nil _ _ _ _) rfl rfl HSRC.out (by unfold maxLen; omega) (by omega) (Nat.le_refl _) ?_)
          intro v5 w5 hu5 hg5 _
          have hg5' := grown_own (grown_refl wr) (World.ownsRow_nil wr _ 0 1) hg5
          obtain ⟨a5, c5, rfl, _⟩ := own_shape hu5
          have hz5 := hg5'.size
          have hown5 := own_keep hown hg5'
          have hou := intsOff_own (k := .u8) (l := pageL l S k) (by rw [HPL.out]; simpa using hu5) HWP.out (fun b hb => (hown.lt b hb).2)
          have HOU := Lib.hid (fun o : Obj => hou.keep (grown_alloc w5 o))
          have hel' := fun (o : Obj) i hi => (HEL.out i hi).keep (hg5'.trans' (grown_alloc w5 o))
          have HEL' := Lib.hid hel'
          have hown6 := fun o : Obj => hown5.alloc o
          clear hou hel' hg5 hu5 hown5 HEL HSRC
          go_wp2_with (at_builtin; refine wpList_appS _ rfl _ _ 24 24 rfl w.heap.size 22 (.slice none 0 0) 1 24 Try.underlying24 Try.infoSl rfl (by decide) _ _ vs.length 1 vs [.slice a5 _ c5] (hown6 _) rfl rfl (own_src (own_lit1 w5 22 _) (by simp [Value.oneCell']) Try.underlying24) (by unfold maxLen; omega) (by omega) (by simp; omega) ?_)
          intro v7 w7 hown7 hg7 hb7
          have hP := pgOwn_push hown7 hg7 (by simpa using hb7) HVL.out (HEL'.out _) (HOU.out _)
          rw [← HSP.out] at hP
          have hg8 := grown_own (hg.trans' (hg5'.trans' (grown_alloc w5 _))) (hown6 _) hg7
          clear hown6 hown7 hg7 hb7 HEL' HOU hown
          have HP := Lib.hid hP
          clear hP
          go_wp2
          go_roundw
          case rel => exact ⟨k + 1, by omega, by rw [HK1.out]; go_num, HP.out, hg8⟩
          case measure => simp [intOf]; omega
      · have hkN : k = N := by omega
        subst hkN
        have hge : ¬ ((k * S : Nat) : Int) < l.length := by
          intro h
          have := (HLT.out k).2 (by simpa using h)
          omega
        generalize k * S = x at *
        have hx : (l.length : Int) ≤ x := by omega
        have HP := Lib.hid hP
        clear hP
        go_wp2
        go_ret2
        rw [HE.out, HL.out]
        exact ⟨_, rfl, HP.out.pgs, hg⟩
  · have HE : Hid (splitE s = 5) := by show _ = _; unfold splitE; rw [if_pos (by omega)]
    have HL : Hid (splitL l s = []) := by show _ = _; unfold splitL; rw [if_pos (by omega)]
    by_cases hs1 : s < 1
    all_goals
      go_enter Try.func9, Try.ntmps9
      go_wp2_with fail
      go_ret2
      rw [HE.out, HL.out]
      exact ⟨_, rfl, (PgOwn.nil _ 0 0).pgs, grown_refl _⟩
end Go.Proofs.Ytogeclmpfbecoaa
