/- The walks of the counts of pages. Conditions: numbers of Go's int. -/
import Derived.Test.YtogeclmpfbecoaaCeil
import Derived.Test.YtogeclmpfbecoaaPgA
import Derived.Test.YtogeclmpfbecoaaFlt
namespace Go.Proofs.Ytogeclmpfbecoaa
open Go.RowKit Go.ChangeShapes Go.WideShapes
set_option linter.unusedVariables false
set_option linter.unusedSimpArgs false
def sizedB (n : Int) : Bool := decide (1 ≤ n ∧ n ≤ 1024)
theorem sized_any (n : Int) (w : World) :
    Calls Try.prog 19 #[.int .i64 n] w fun e w' => e = .returned (.bool (sizedB n)) ∧ w = w' := by
  by_cases h1 : 1 ≤ n
  · by_cases h2 : n ≤ 1024
    · have hk : Hid (sizedB n = true) := decide_eq_true ⟨h1, h2⟩
      go_enter Try.func19, Try.ntmps19
      go_wp2
      go_ret
      rw [hk.out]
      exact ⟨by simp [h2], rfl⟩
    · have hk : Hid (sizedB n = false) := decide_eq_false (by omega)
      go_enter Try.func19, Try.ntmps19
      go_wp2
      go_ret
      rw [hk.out]
      exact ⟨by simp [h2], rfl⟩
  · have hk : Hid (sizedB n = false) := decide_eq_false (by omega)
    go_enter Try.func19, Try.ntmps19
    go_wp2
    go_ret
    rw [hk.out]
    exact ⟨by first | rfl | simp [h1], rfl⟩
set_option maxHeartbeats 800000 in
theorem count_any (n s : Int) (w : World) (hn : n ≤ 9223372036854775807) :
    Calls Try.prog 10 #[.int .i64 n, .int .i64 s] w fun e w' => e = .returned (.tuple #[.int .i64 (cntR n s).1, .int .i64 (cntR n s).2]) ∧ w = w' := by
  by_cases h0 : n < 0
  · have h : Hid (cntR n s = (0, 5)) := by show _ = _; unfold cntR; rw [if_pos (.inl h0)]
    go_enter Try.func10, Try.ntmps10
    go_wp2
    go_ret2
    rw [h.out]
    exact ⟨rfl, rfl⟩
  · cases hs : sizedB s
    · have h : Hid (cntR n s = (0, 5)) := by
        show _ = _; unfold cntR; unfold sizedB at hs; simp at hs; rw [if_pos (by omega)]
      have HS := Lib.hid hs
      clear hs
      go_enter Try.func10, Try.ntmps10
      go_wp2_with (go_at_call 19; refine (sized_any _ _).mono ?_; rw [HS.out]; rintro e w' ⟨rfl, rfl⟩)
      go_ret2
      rw [h.out]
      exact ⟨rfl, rfl⟩
    · have hs2 : 1 ≤ s ∧ s ≤ 1024 := by unfold sizedB at hs; simpa using hs
      have h : Hid (cntR n s = (ceilD n s, 0)) := by show _ = _; unfold cntR; rw [if_neg (by omega)]
      have HC : Hid (ceilR n s = (ceilD n s, 0)) := by show _ = _; unfold ceilR; rw [if_neg (by omega)]
      have HS := Lib.hid hs
      clear hs
      go_enter Try.func10, Try.ntmps10
      go_wp2_with (first
        | (go_at_call 19; refine (sized_any _ _).mono ?_; rw [HS.out]; rintro e w' ⟨rfl, rfl⟩)
        | (go_at_call 20; refine (ceil_any _ _ _ hn).mono ?_; rw [HC.out]; rintro e w' ⟨rfl, rfl⟩))
      go_ret2
      rw [h.out]
      exact ⟨rfl, rfl⟩
set_option maxHeartbeats 800000 in
theorem countr_any (n s : Int) (w : World) (hn : n ≤ 9223372036854775807) :
    Calls Try.prog 11 #[.int .i64 n, .int .i64 s] w fun e w' => e = .returned (.tuple #[.int .i64 (cntR n s).1, .int .i64 (cntR n s).2]) ∧ w = w' := by
  by_cases h0 : n < 0
  · have h : Hid (cntR n s = (0, 5)) := by show _ = _; unfold cntR; rw [if_pos (.inl h0)]
    go_enter Try.func11, Try.ntmps11
    go_wp2
    go_ret2
    rw [h.out]
    exact ⟨rfl, rfl⟩
  · by_cases h1 : s < 1
    · have h : Hid (cntR n s = (0, 5)) := by show _ = _; unfold cntR; rw [if_pos (by omega)]
      go_enter Try.func11, Try.ntmps11
      go_wp2
      go_ret2
      rw [h.out]
      exact ⟨rfl, rfl⟩
    · by_cases h2 : s > 1024
      · have h : Hid (cntR n s = (0, 5)) := by show _ = _; unfold cntR; rw [if_pos (by omega)]
        go_enter Try.func11, Try.ntmps11
        go_wp2
        go_ret2
        rw [h.out]
        exact ⟨rfl, rfl⟩
      · have h : Hid (cntR n s = (ceilD n s, 0)) := by show _ = _; unfold cntR; rw [if_neg (by omega)]
        have HC : Hid (ceilR n s = (ceilD n s, 0)) := by show _ = _; unfold ceilR; rw [if_neg (by omega)]
        go_enter Try.func11, Try.ntmps11
        go_wp2_with (go_at_call 21; refine (ceilr_any _ _ _ hn).mono ?_; rw [HC.out]; rintro e w' ⟨rfl, rfl⟩)
        go_ret2
        rw [h.out]
        exact ⟨rfl, rfl⟩
theorem min_le_l (x y : Int) : (if y < x then y else x) ≤ x := by split <;> omega
set_option maxHeartbeats 800000 in
theorem span_any (n s p : Nat) (w : World) (h1 : p * s ≤ 1000) (h2 : (p + 1) * s ≤ 3000) (hn : n ≤ 1000) (hs : s ≤ 1024) (hp : p ≤ 1000) :
    Calls Try.prog 18 #[.int .i64 n, .int .i64 s, .int .i64 p] w fun e w' => e = .returned (.complex .f64 (floatOfInt .f64 ((p * s : Nat) : Int)) (floatOfInt .f64 ((min ((p + 1) * s) n : Nat) : Int))) ∧ w = w' := by
  have e1 : (p : Int) * s = ((p * s : Nat) : Int) := by simp
  have e2 : ((p : Int) + 1) * s = (((p + 1) * s : Nat) : Int) := by simp
  generalize p * s = x at *
  generalize (p + 1) * s = y at *
  go_enter Try.func18, Try.ntmps18
  have hcx := @run_cx Try.prog
  go_wp2
  all_goals
    go_ret
    first
      | (rw [Nat.min_eq_left (show y ≤ n by omega)]; exact ⟨rfl, rfl⟩)
      | (rw [Nat.min_eq_right (show n ≤ y by omega)]; exact ⟨rfl, rfl⟩)
theorem Try.infoU8 : (Try.prog.info? 5).map (fun i => (i.zero, i.size, i.bytes)) = some (some (.int .u8 0), 1, 1) := by kernel_rfl
theorem Try.infoSl : (Try.prog.info? 22).map (fun i => (i.zero, i.size, i.bytes)) = some (some (.slice none 0 0), 1, 24) := by kernel_rfl
theorem cntR_split {n : Nat} {s : Int} (h : 1 ≤ s) (h2 : s ≤ 1024) : cntR n s = (ceilD n s, 0) := by unfold cntR; rw [if_neg (by omega)]
/-- A part of a row, low and high given. -/
theorem ints_cut2 {k : IntKind} {w : World} {a : Option Addr} {n c : Nat} {l : List Int} (h : Ints k w (.slice a n c) l) {i j : Nat} (hij : i ≤ j) (hj : j ≤ n) : Ints k w (.slice (if c = i then a else Option.map (fun x => x.add i) a) (j - i) (c - i)) ((l.drop i).take (j - i)) := by
  obtain ⟨a', cap, e, h1, h2, h3, h4⟩ := h
  cases e
  have hlen : ((l.drop i).take (j - i)).length = j - i := by rw [List.length_take, List.length_drop]; omega
  refine ⟨_, c - i, by rw [hlen], by omega, by omega, fun n hn => h3 n (List.mem_of_mem_drop (List.mem_of_mem_take hn)), ?_⟩
  by_cases hz : (l.drop i).take (j - i) = []
  · exact .inl hz
  rcases h4 with rfl | ⟨b, off, rfl, hb, hc⟩
  · exact .inl (by simp)
  · have hzl : 0 < ((l.drop i).take (j - i)).length := List.length_pos_iff.2 hz
    rw [hlen] at hzl
    refine .inr ⟨b, off + i, ?_, hb, fun t ht => ?_⟩
    · rw [if_neg (by omega)]
      unfold Addr.add; simp
      try (intro e; subst e; simp)
    rw [hlen] at ht
    rw [gI_take ht, gI_drop, Nat.add_assoc]
    exact hc (i + t) (by omega)
set_option maxRecDepth 100000 in
set_option maxHeartbeats 1600000 in
theorem split_any (v : Value) (l : List Int) (s : Int) (w : World) (hv : Ints .u8 w v l) (hl : l.length ≤ 1000) :
    Calls Try.prog 8 #[v, .int .i64 s] w fun e w' => ∃ v', e = .returned (.tuple #[v', .int .i64 (splitE s)]) ∧ Pgs w' v' (splitL l s) ∧ w.grownBy w' none := by
  have HV := Lib.hid hv
  obtain ⟨a, cap, rfl⟩ := hv.shape
  obtain ⟨a', cap', e', q1, q2, q3, _⟩ := hv
  cases e'
  by_cases hs : 1 ≤ s ∧ s ≤ 1024
  · have HE : Hid (splitE s = 0) := by show _ = _; unfold splitE; rw [if_neg (by omega)]
    have HL : Hid (splitL l s = splitN l s.toNat (ceilD l.length s).toNat) := by show _ = _; unfold splitL; rw [if_neg (by omega)]
    have HC := Lib.hid (cntR_split (n := l.length) hs.1 hs.2)
    obtain ⟨S, rfl⟩ := Int.eq_ofNat_of_zero_le (show 0 ≤ s by omega)
    have hr := ceilD_range (a := l.length) (b := S) (by omega) (by omega)
    have hlt := fun k : Nat => ceilD_lt (a := l.length) (b := S) (by omega) k
    generalize hK : ceilD l.length S = K at *
    clear hK
    obtain ⟨N, rfl⟩ := Int.eq_ofNat_of_zero_le hr.1
    have hN : N ≤ 1000 := by omega
    have hS : 1 ≤ S ∧ S ≤ 1024 := by omega
    have HLT := Lib.hid hlt
    clear hlt hr hs
    simp only [Int.toNat_natCast] at HL
    have HW := Lib.hid q3
    clear q3
    go_enter Try.func8, Try.ntmps8
    go_wp2_with (go_at_call 10; refine (count_any _ _ _ (by omega)).mono ?_; rw [HC.out]; rintro e w' ⟨rfl, rfl⟩)
    go_loopw [8, 22] (fun v i wr => ∃ k : Nat, k ≤ N ∧ i = .int .i64 k ∧ PgOwn wr w.heap.size 22 v (splitN l S k) ∧ w.grownBy wr none) (fun _ i _ => N - (intOf i).toNat)
    case atStart => exact ⟨0, by omega, rfl, PgOwn.nil _ _ _, grown_refl _⟩
    case round =>
      obtain ⟨k, hk, rfl, hP, hg⟩ := hrel
      by_cases hkN : k < N
      · have h1 := (HLT.out k).1 (by omega)
        have h1' : k * S < l.length := by have : ((k * S : Nat) : Int) < l.length := by simpa using h1
                                          omega
        have h2 : (k + 1) * S ≤ 3000 := by rw [Nat.add_mul]; omega
        have c1 := fun w => span_any l.length S k w (by omega) h2 hl hS.2 (by omega)
        have hmn : k * S ≤ min ((k + 1) * S) l.length ∧ min ((k + 1) * S) l.length ≤ l.length := by rw [Nat.add_mul]; omega
        have hpg : (l.drop (k * S)).take (min ((k + 1) * S) l.length - k * S) = pageL l S k := by
          unfold pageL
          by_cases h : (k + 1) * S ≤ l.length
          · rw [Nat.min_eq_left h, Nat.add_mul, Nat.one_mul, Nat.add_sub_cancel_left]
          · rw [Nat.min_eq_right (by omega), List.take_of_length_le (by rw [List.length_drop]; omega), List.take_of_length_le (by rw [List.length_drop]; rw [Nat.add_mul] at h; omega)]
        generalize k * S = x at *
        generalize min ((k + 1) * S) l.length = y at *
        clear h1 h2
        obtain ⟨vs, hown, hvl, hel⟩ := hP
        have hsz := hg.size
        have hib := ints_cut2 HV.out hmn.1 hmn.2
        rw [hpg, if_neg (by omega)] at hib
        have hpl : (pageL l S k).length = y - x := by rw [← hpg, List.length_take, List.length_drop]; omega
        have hwp : ∀ n ∈ pageL l S k, (Lit.int .u8 n).wf = true := by rw [← hpg]; exact fun n hn => HW.out n (List.mem_of_mem_drop (List.mem_of_mem_take hn))
        have HIB := Lib.hid hib
        have HPL := Lib.hid hpl
        have HWP := Lib.hid hwp
        have HEL := Lib.hid hel
        have HVL := Lib.hid hvl
        have HSP := Lib.hid (splitN_succ l S k)
        have C1 := Lib.hid c1
        have hvn : vs.length = k := by rw [hvl, length_splitN]
        have hpy : y - x ≤ 1000 := by omega
        have HVN := Lib.hid hvn
        have cva := fun w => run_flt (P := Try.prog) (src := 41) (dst := 3) (by kernel_rfl) Try.underlying3 (n := (x : Int)) (by omega) (by omega) w
        have cvb := fun w => run_flt (P := Try.prog) (src := 41) (dst := 3) (by kernel_rfl) Try.underlying3 (n := (y : Int)) (by omega) (by omega) w
        have hre := @run_re Try.prog
        have him := @run_im Try.prog
        clear hpg hib hpl hwp hel hvl c1 hvn
        go_wp2_with fail
        refine (C1.out _).mono ?_
        rintro e w2 ⟨rfl, rfl⟩
        have hsrc := (HIB.out.grown (hg.trans' (grown_alloc wr (.cells #[] 5)))).src (P := Try.prog) Try.underlying22
        rw [HPL.out] at hsrc
        have HSRC := Lib.hid hsrc
        clear hsrc
        go_wp2_with (at_builtin; refine wpList_appS _ rfl _ _ 22 22 rfl wr.heap.size 5 (.int .u8 0) 1 1 Try.underlying22 Try.infoU8 rfl (by decide) _ _ 0 (y - x) [] _ (own_lit0 wr 5 (Nat.le_refl _)) rfl rfl HSRC.out (by unfold maxLen; omega) (by omega) (by simp) ?_)
        intro v5 w5 hu5 hg5 _
        have hg5' := grown_own (grown_alloc wr (.cells #[] 5)) (own_lit0 wr 5 (Nat.le_refl _)) hg5
        obtain ⟨a5, c5, rfl, _⟩ := own_shape hu5
        have hz5 := hg5'.size
        have hown5 := own_keep hown hg5'
        have hou := intsOff_own (k := .u8) (l := pageL l S k) (by rw [HPL.out]; exact hu5) HWP.out (fun b hb => (hown.lt b hb).2)
        have HOU := Lib.hid (hou.keep (grown_alloc w5 (.cells #[.slice a5 (y - x) c5] 22)))
        have hel' := fun i hi => (HEL.out i hi).keep (hg5'.trans' (grown_alloc w5 (.cells #[.slice a5 (y - x) c5] 22)))
        have HEL' := Lib.hid hel'
        have hown6 := hown5.alloc (.cells #[.slice a5 (y - x) c5] 22)
        clear hou hel' hg5 hu5 hown5 HEL HSRC HIB
        have hvs : vs.length ≤ 1000 := by have := HVN.out; omega
        go_wp2_with (at_builtin; refine wpList_appS _ rfl _ _ 24 24 rfl w.heap.size 22 (.slice none 0 0) 1 24 Try.underlying24 Try.infoSl rfl (by decide) _ _ vs.length 1 vs [.slice a5 (y - x) c5] hown6 rfl rfl (own_src (own_lit1 w5 22 _) (by simp [Value.oneCell']) Try.underlying24) (by unfold maxLen; omega) (by omega) (by simp; omega) ?_)
        intro v7 w7 hown7 hg7 hb7
        have hP := pgOwn_push hown7 hg7 (by simpa using hb7) HVL.out HEL'.out HOU.out
        rw [← HSP.out] at hP
        have hg8 := grown_own (hg.trans' (hg5'.trans' (grown_alloc w5 (.cells #[.slice a5 (y - x) c5] 22)))) hown6 hg7
        clear hown6 hown7 hg7 hb7 HEL' HOU hown
        have HP := Lib.hid hP
        clear hP
        go_wp2
        go_roundw
        case rel => exact ⟨k + 1, by omega, by go_num, HP.out, hg8⟩
        case measure => simp [intOf]; omega
      · have hkN : k = N := by omega
        subst hkN
        have HP := Lib.hid hP
        clear hP
        go_wp2
        go_ret2
        rw [HE.out, HL.out]
        exact ⟨_, rfl, HP.out.pgs, hg⟩
  · have HE : Hid (splitE s = 5) := by show _ = _; unfold splitE; rw [if_pos (by omega)]
    have HL : Hid (splitL l s = []) := by show _ = _; unfold splitL; rw [if_pos (by omega)]
    have HC : Hid (cntR l.length s = (0, 5)) := by show _ = _; unfold cntR; rw [if_pos (by omega)]
    clear hs
    go_enter Try.func8, Try.ntmps8
    go_wp2_with (go_at_call 10; refine (count_any _ _ _ (by omega)).mono ?_; rw [HC.out]; rintro e w' ⟨rfl, rfl⟩)
    go_ret2
    rw [HE.out, HL.out]
    exact ⟨_, rfl, (PgOwn.nil _ 0 0).pgs, grown_refl _⟩
end Go.Proofs.Ytogeclmpfbecoaa
