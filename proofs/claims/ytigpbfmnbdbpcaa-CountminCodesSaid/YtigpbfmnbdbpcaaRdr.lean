/- The walks of the reference's reader of numbers. Conditions: the reader's cells lie in a block of their own. -/
import Derived.Test.YtigpbfmnbdbpcaaReads
import Derived.Test.YtigpbfmnbdbpcaaUintDec
import Derived.Test.YtigpbfmnbdbpcaaLib2
namespace Go.Proofs.Ytigpbfmnbdbpcaa
open Go.RowKit Go.ChangeShapes Go.WideShapes
set_option linter.unusedVariables false
set_option linter.unusedSimpArgs false
/-- The reader in block R: the bytes v, k of them read, bad. -/
def RdrAt (R : Nat) (v : Value) (k : Nat) (bad : Bool) (w : World) : Prop :=
  R < w.heap.size ∧ w.cell? ⟨R, 0, none⟩ = some v ∧ w.cell? ⟨R, 1, none⟩ = some (.int .i64 k) ∧ w.cell? ⟨R, 2, none⟩ = some (.bool bad) ∧ ∀ o, w.frozen? ⟨R, o, none⟩ = false
theorem RdrAt.keep {R : Nat} {v : Value} {k : Nat} {bad : Bool} {w w' : World} (h : RdrAt R v k bad w) (g : w.grownBy w' none) : RdrAt R v k bad w' := by
  obtain ⟨h0, h1, h2, h3, h4⟩ := h
  exact ⟨Nat.lt_of_lt_of_le h0 g.size, (World.cell?_of_block (w := w) (g.block R h0 (by simp))).trans h1, (World.cell?_of_block (w := w) (g.block R h0 (by simp))).trans h2, (World.cell?_of_block (w := w) (g.block R h0 (by simp))).trans h3,
    fun o => (World.frozen?_of_block (w := w) (g.block R h0 (by simp))).trans (h4 o)⟩
theorem RdrAt.bad {R : Nat} {v : Value} {k : Nat} {bad : Bool} {w : World} (h : RdrAt R v k bad w) : RdrAt R v k true (w.setCell ⟨R, 2, none⟩ (.bool true)) := by
  obtain ⟨h0, h1, h2, h3, h4⟩ := h
  refine ⟨by simpa using h0, ?_, ?_, ?_, fun o => ?_⟩ <;> (simp [go_sem, h1, h2, h3, h4]; done)
theorem RdrAt.on {R : Nat} {v : Value} {k : Nat} {bad : Bool} {w : World} (h : RdrAt R v k bad w) (j : Nat) : RdrAt R v j bad (w.setCell ⟨R, 1, none⟩ (.int .i64 j)) := by
  obtain ⟨h0, h1, h2, h3, h4⟩ := h
  refine ⟨by simpa using h0, ?_, ?_, ?_, fun o => ?_⟩ <;> (simp [go_sem, h1, h2, h3, h4]; done)
theorem grown_cell (w : World) (R o : Nat) (v : Value) : w.grownBy (w.setCell ⟨R, o, none⟩ v) (some R) :=
  ⟨rfl, rfl, rfl, by simp, fun k _ hk => Below.heap_setCell _ _ _ k (fun e => hk (by rw [e]))⟩
theorem grown_drew_then {w w' : World} {n : Nat} {r : Option Nat} (g : (w.drewN n).grownBy w' r) : w.grownBy w' r := ⟨g.os, g.tape, g.output, g.size, g.block⟩
/-- Reading a number of at most 'most' at k: the number, how many bytes are read, bad. -/
def rdU (r : Int × Int × Int) (most : Int) (k : Nat) (bad : Bool) : Int × Nat × Bool := if bad = true ∨ r.2.2 ≠ 0 ∨ r.1 > most then (0, k, true) else (r.1, k + r.2.1.toNat, false)
def rdN (l : List Int) (most : Int) (k : Nat) (bad : Bool) : Int × Nat × Bool := rdU (decU (l.drop k)) most k bad
theorem ints_cut {k : IntKind} {w : World} {a : Option Addr} {n c : Nat} {l : List Int} (h : Ints k w (.slice a n c) l) {j : Nat} (hj : j ≤ n) : Ints k w (.slice (if c = j then a else Option.map (fun x => x.add j) a) (n - j) (c - j)) (l.drop j) := by
  obtain ⟨a', cap, e, h1, h2, h3, h4⟩ := h
  cases e
  have hlen : (l.drop j).length = l.length - j := List.length_drop
  refine ⟨_, c - j, by rw [hlen], by omega, by omega, fun n hn => h3 n (List.mem_of_mem_drop hn), ?_⟩
  by_cases hz : l.drop j = []
  · exact .inl hz
  rcases h4 with rfl | ⟨b, off, rfl, hb, hc⟩
  · exact .inl (by simp)
  · have hzl : 0 < (l.drop j).length := List.length_pos_iff.2 hz
    refine .inr ⟨b, off + j, ?_, hb, fun i hi => ?_⟩
    · rw [if_neg (by omega)]
      unfold Addr.add; simp
      try (intro e; subst e; simp)
    rw [hlen] at hi
    rw [gI_drop, Nat.add_assoc]
    exact hc (j + i) (by omega)
theorem rdU_bad {r : Int × Int × Int} {most : Int} {k : Nat} {bad : Bool} (h : bad = true ∨ r.2.2 ≠ 0 ∨ r.1 > most) : rdU r most k bad = (0, k, true) := by unfold rdU; rw [if_pos h]
theorem rdU_ok {r : Int × Int × Int} {most : Int} {k : Nat} (h2 : r.2.2 = 0) (h3 : ¬ r.1 > most) : rdU r most k false = (r.1, k + r.2.1.toNat, false) := by unfold rdU; rw [if_neg (by simp [h2]; omega)]
set_option maxRecDepth 100000 in
set_option maxHeartbeats 1600000 in
theorem rnum_any (R : Nat) (v : Value) (l : List Int) (k : Nat) (bad : Bool) (most : Int) (w : World) (hv : Ints .u8 w v l) (hk : k ≤ l.length) (h : RdrAt R v k bad w) :
    Calls Try.prog 58 #[.pointer (some ⟨R, 0, none⟩), .int .i64 most] w fun e w' => e = .returned (.int .i64 (rdN l most k bad).1) ∧ RdrAt R v (rdN l most k bad).2.1 (rdN l most k bad).2.2 w' ∧ w.grownBy w' (some R) := by
  obtain ⟨a, cap, rfl, h1, h2, h3⟩ := id hv
  have CD := Lib.hid (fun m : Nat => (decUintr_any _ _ (w.drewN m) ((ints_cut hv hk).grown (grown_drew m))).mono (R' := fun e w' => e = .returned (tri (decU (l.drop k))) ∧ w' = w.drewN m) fun e w' ⟨he, hw⟩ => ⟨he, hw.symm⟩)
  have hok := fun (h : (decU (l.drop k)).2.2 = 0) => decU_ok (l := l.drop k) (wf_drop h3.1 k) (n := (decU (l.drop k)).1) (k := (decU (l.drop k)).2.1) (by rw [← h])
  have hrd : rdN l most k bad = rdU (decU (l.drop k)) most k bad := rfl
  generalize rdN l most k bad = r at *
  rw [List.length_drop] at hok
  generalize decU (l.drop k) = dd at *
  obtain ⟨n, u, er⟩ := dd
  simp only [tri] at CD
  have HR := Lib.hid hrd
  have HH := Lib.hid h
  obtain ⟨r0, r1, r2, r3, r4⟩ := h
  have e1 : (0 : Int) ≤ k := by omega
  have e2 : (k : Int) ≤ l.length := by omega
  have e3 : (k : Int) ≤ cap := by omega
  have e4 : (l.length : Int) ≤ cap := by omega
  clear h3 hrd hv
  by_cases hb : bad = true
  · subst hb
    have HF : Hid (r = (0, k, true)) := by show _ = _; rw [HR.out]; exact rdU_bad (.inl rfl)
    clear HR hok
    go_enter Try.func58, Try.ntmps58
    go_wp2_with fail
    go_quiet ((go_at_call 68; exact Calls.quiet_of_same (CD.out _)))
    generalize (if cap = k then a else Option.map (fun x => x.add k) a) = aa
    go_wp2
    go_ret
    rw [HF.out]
    exact ⟨rfl, (HH.out.keep (grown_drew _)).bad, grown_drew_then (grown_cell _ _ _ _)⟩
  · have hb' : bad = false := by simpa using hb
    subst hb'
    clear hb
    by_cases he : er = 0
    · subst he
      have ho := hok rfl
      by_cases hn : n > most
      · have HF : Hid (r = (0, k, true)) := by show _ = _; rw [HR.out]; exact rdU_bad (.inr (.inr hn))
        clear HR hok ho
        go_enter Try.func58, Try.ntmps58
        go_wp2_with fail
        go_quiet ((go_at_call 68; exact Calls.quiet_of_same (CD.out _)))
        generalize (if cap = k then a else Option.map (fun x => x.add k) a) = aa
        go_wp2
        go_ret
        rw [HF.out]
        exact ⟨rfl, (HH.out.keep (grown_drew _)).bad, grown_drew_then (grown_cell _ _ _ _)⟩
      · have HF : Hid (r = (n, k + u.toNat, false)) := by show _ = _; rw [HR.out]; exact rdU_ok rfl hn
        clear HR hok
        simp only at ho
        obtain ⟨j, rfl⟩ : ∃ j : Nat, u = j := ⟨u.toNat, by omega⟩
        have HO := Lib.hid ho
        clear ho
        go_enter Try.func58, Try.ntmps58
        go_wp2_with fail
        go_quiet ((go_at_call 68; exact Calls.quiet_of_same (CD.out _)))
        generalize (if cap = k then a else Option.map (fun x => x.add k) a) = aa
        have ho := HO.out
        have hj : k + j ≤ l.length := by omega
        unfold maxLen at h2
        go_wp2
        go_ret
        rw [HF.out]
        exact ⟨rfl, by simpa using (HH.out.keep (grown_drew _)).on (k + j), grown_drew_then (grown_cell _ _ _ _)⟩
    · have HF : Hid (r = (0, k, true)) := by show _ = _; rw [HR.out]; exact rdU_bad (.inr (.inl he))
      have hen : (er != 0) = true := by rw [bne_iff_ne]; exact he
      clear HR hok he
      go_enter Try.func58, Try.ntmps58
      go_wp2_with fail
      go_quiet ((go_at_call 68; exact Calls.quiet_of_same (CD.out _)))
      generalize (if cap = k then a else Option.map (fun x => x.add k) a) = aa
      go_wp2
      go_ret
      rw [HF.out]
      exact ⟨rfl, (HH.out.keep (grown_drew _)).bad, grown_drew_then (grown_cell _ _ _ _)⟩
set_option maxRecDepth 100000 in
set_option maxHeartbeats 1600000 in
theorem rdone_any (R : Nat) (a : Option Addr) (len cap : Nat) (k : Nat) (bad : Bool) (w : World) (h : RdrAt R (.slice a len cap) k bad w) :
    Calls Try.prog 60 #[.pointer (some ⟨R, 0, none⟩)] w fun e w' => e = .returned (.bool (!bad && decide (k = len))) ∧ w.grownBy w' none := by
  obtain ⟨r0, r1, r2, r3, r4⟩ := h
  cases bad
  · by_cases hk : k = len
    · subst hk
      go_enter Try.func60, Try.ntmps60
      go_wp2_with fail
      go_quiet (fail)
      go_wp2
      go_ret
      exact ⟨by simp, grown_drew _⟩
    · have hb : ((k : Int) == len) = false := beq_eq_false_iff_ne.2 (by omega)
      have HK := Lib.hid hk
      clear hk
      go_enter Try.func60, Try.ntmps60
      go_wp2_with fail
      go_quiet (fail)
      go_wp2
      go_ret
      exact ⟨by simp [HK.out], grown_drew _⟩
  · go_enter Try.func60, Try.ntmps60
    go_wp2_with fail
    go_quiet (fail)
    go_wp2
    go_ret
    exact ⟨by simp, grown_drew _⟩
end Go.Proofs.Ytigpbfmnbdbpcaa
