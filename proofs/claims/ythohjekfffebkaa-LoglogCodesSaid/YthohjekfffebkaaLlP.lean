/- The walk of Decode of LogLog sketches. Conditions: the bytes lie in memory. -/
import Derived.Test.YthohjekfffebkaaLlO
namespace Go.Proofs.Ythohjekfffebkaa
open Go.RowKit Go.ChangeShapes Go.WideShapes
set_option linter.unusedVariables false
set_option linter.unusedSimpArgs false
theorem llD_err {l : List Int} {n u er : Int} (h : llD l = llDr l (n, u, er) (decW (l.drop u.toNat))) (he : er ≠ 0 ∨ ¬ pOK n) : llD l = (0, 0, [], 2) := by
  rw [h]
  unfold llDr
  split
  · rfl
  · rename_i h1
    rcases he with he | he
    · exact absurd (.inl he) h1
    · unfold llDo
      rw [if_pos (fun e => he (llE_ok e).1)]
set_option maxRecDepth 100000 in
set_option maxHeartbeats 1000000 in
theorem lldec_any (v : Value) (l : List Int) (w : World) (hv : Ints .u8 w v l) :
    Calls Try.prog 30 #[v] w fun e w' => ∃ u, e = .returned (.tuple #[.agg #[.int .i64 (llD l).1, .int .u64 (llD l).2.1, u], .int .i64 (llD l).2.2.2]) ∧ Ints .i64 w' u (llD l).2.2.1 ∧ Fresh w.heap.size u ∧ w.grownBy w' none := by
  have HW := Lib.hid hv.wfs
  have HV := Lib.hid hv
  obtain ⟨a, cap, rfl, h1, h2, -, -⟩ := id hv
  unfold maxLen at h2
  have c1 := fun w1 (g : w.grownBy w1 none) => decUint_any _ l w1 (hv.grown g)
  have hok := fun (h : (decU l).2.2 = 0) => decU_ok (l := l) hv.wfs (n := (decU l).1) (k := (decU l).2.1) (by rw [← h])
  have hD : llD l = llDr l (decU l) (decW (l.drop (decU l).2.1.toNat)) := rfl
  generalize decU l = dd at *
  obtain ⟨n, u, er⟩ := dd
  simp only [tri] at c1
  simp only at hD hok
  have C1 := Lib.hid c1
  have hErr := fun he => llD_err hD he
  clear c1
  by_cases he : er = 0
  · subst he
    have ho := hok rfl
    obtain ⟨j, rfl⟩ : ∃ j : Nat, u = j := ⟨u.toNat, by omega⟩
    have hj : j ≤ l.length := by omega
    have hn0 : 0 ≤ n := ho.1
    have hj9 : j ≤ 9 := by omega
    rw [Int.toNat_natCast] at hD
    clear hok ho
    by_cases hp : pOK n
    · obtain ⟨q1, q2⟩ : 2 ≤ n ∧ n ≤ 8 := id hp
      have hp2 := p2_in hp
      have hsh := p2_sh hp
      have HP := Lib.hid hp
      have c2 := fun u w1 (h : Ints .u8 w1 u (l.drop j)) => decWord_any u (l.drop j) w1 h
      have hdo := fun h => decW_ok (l := l.drop j) h
      have hde := fun h => decW_err (l := l.drop j) h
      rw [List.length_drop] at hdo
      generalize decW (l.drop j) = q at *
      obtain ⟨z, m, e2⟩ := q
      simp only at c2 hdo hde
      have C2 := Lib.hid c2
      have e1 : (0 : Int) ≤ j := by omega
      have e3 : (j : Int) ≤ l.length := by omega
      have e4 : (l.length : Int) ≤ cap := by omega
      by_cases he2 : e2 = 0
      · subst he2
        obtain ⟨rfl, hd2, -⟩ := hdo rfl
        have hj8 : j + 8 ≤ l.length := by omega
        have hrest := Lib.hid (ints_cut hv hj8)
        have hlen : (l.drop (j + 8)).length = l.length - (j + 8) := List.length_drop
        have hDD : llD l = llDo n z (l.drop (j + 8)) := by rw [hD]; rfl
        obtain ⟨rs, hrs⟩ : ∃ rs, rs = l.drop (j + 8) := ⟨_, rfl⟩
        have hwr : ∀ c ∈ rs, (Lit.int .u8 c).wf = true := by rw [hrs]; exact wf_drop hv.wfs _
        rw [← hrs] at hDD hrest hlen
        have HRS : Hid (∀ i, gI rs i = gI l (j + 8 + i)) := fun i => by rw [hrs, gI_drop]
        have e5 : ((j : Int) + 8) ≤ l.length := by omega
        have hI3 := ints_cut hv hj
        rw [if_neg (show ¬ cap = j by omega)] at hI3
        have I3 := Lib.hid hI3
        clear hI3
        clear hdo hde hErr c2 hd2 hrs hp
        by_cases hl : rs.length = p2 n
        · have hbl : (((l.length - (j + 8) : Nat) : Int) != wrap64 (2 ^ n.toNat)) = false := by rw [hsh, bne_eq_false_iff_eq]; omega
          have hDE : llE n rs = 0 → llD l = (n, z, rs, 0) := fun e => by rw [hDD]; unfold llDo; rw [if_neg (by simpa using e)]
          have hDN : llE n rs ≠ 0 → llD l = (0, 0, [], 2) := fun e => by rw [hDD]; unfold llDo; rw [if_pos e]
          have HE := Lib.hid hDE
          have HN := Lib.hid hDN
          have HL := Lib.hid hl
          have HLEN := Lib.hid hlen
          have HWR := Lib.hid hwr
          have hr256 : rs.length ≤ 256 := by omega
          have hr0 : 0 < rs.length := by omega
          clear hDE hDN hD hDD hsh hl hlen hwr hv
          go_enter Try.func30, Try.ntmps30
          go_wp2_with fail
          refine (C1.out _ (grown_alloc _ _)).mono ?_
          rintro e w1 ⟨rfl, hw1⟩
          have r1 : Blk w.heap.size #[.int .i64 0, .int .u64 0, .slice none 0 0] 26 w1 := by rw [← hw1]; exact Blk.new _ _ _
          have G1 : w.grownBy w1 none := by rw [← hw1]; exact grown_alloc _ _
          have hz1 := r1.lt
          clear hw1
          go_wp2_with fail
          refine (bitsok_yes _ _ ⟨q1, q2⟩).mono ?_
          rintro e w2 ⟨rfl, rfl⟩
          go_wp2_with fail
          refine (C2.out _ _ (I3.out.grown G1)).mono ?_
          rintro e w2 ⟨rfl, rfl⟩
          obtain ⟨bl, off, rfl, hbl2, hcl⟩ := HV.out.at (by omega)
          have hjl : j + 8 < l.length := by have := HLEN.out; omega
          have HC := Lib.hid hcl
          clear hcl
          go_wp2_with fail
          go_loopw [12, 55] (fun _ i wr => ∃ (k : Nat) (v : Value), k ≤ rs.length ∧ i = .int .i64 k ∧ wr.ownsRow (w1.heap.size + 1) 3 1 v k ((rs.take k).map (.int .i64)) ∧ Blk w1.heap.size #[.int .i64 n, .int .u64 z, v] 26 wr ∧ Two w1.heap.size w1.heap.size w1 wr) (fun _ i _ => rs.length - (intOf i).toNat)
          case atStart => exact ⟨0, _, by omega, rfl, World.ownsRow_nil _ _ _ _, Blk.new _ _ _, (Two.refl _ _ _).grown (grown_alloc _ _)⟩
          case round =>
            obtain ⟨k, v, hk, rfl, ho, d5, T5⟩ := hrel
            have G5 := T5.up G1 (by omega) (by omega)
            have hz5 := d5.lt
            have hfr : Fresh (w1.heap.size + 1) v := by
              intro g nn cc e
              exact (ho.lt g.block (by rw [e]; rfl)).1
            obtain ⟨a5, k5, rfl, hka, hkb⟩ := own_shape ho
            by_cases hlt : k < rs.length
            · have y := kcell G5 (HC.out (j + 8 + k) (by have := HLEN.out; omega)) hbl2
              have hb := gI_u8 HWR.out k
              rw [← HRS.out, ← Nat.add_assoc off] at y
              have HS := Lib.hid (take_succ_gI hlt)
              generalize gI rs k = x at *
              have e6 : (k : Int) < ((l.length - (j + 8) : Nat) : Int) := by have := HLEN.out; omega
              have e7 : (0 : Int) ≤ k := by omega
              obtain ⟨d50, d51, d52, d53⟩ := d5.at3
              go_wp2_with (at_builtin; refine wpList_app1 wr (.int .i64 x) rfl _ _ 24 rfl (w1.heap.size + 1) 3 (.int .i64 0) 8 Try.underlying24 Try.infoInt rfl _ _ _ ho rfl rfl rfl (by unfold maxLen; omega) (by omega) (by omega) ?_)
              intro v6 w6 ho6 g6
              obtain ⟨a6, k6, rfl, hka6, hkb6⟩ := own_shape ho6
              have hge : ∀ g, (Value.slice a5 k k5).ownBlock = some g → w1.heap.size + 1 ≤ g := fun g hg => (ho.lt g hg).1
              have d6 := d5.own g6 (fun e => by have := hge _ e; omega)
              have T6 : Two w1.heap.size w1.heap.size w1 w6 := T5.own (grown_refl _) g6 (fun g hg => by have := hge g hg; omega)
              obtain ⟨d60, d61, d62, d63⟩ := d6.at3
              clear d50 d51 d52 d53 ho g6 y
              go_wp2
              go_roundw
              case rel =>
                refine ⟨k + 1, .slice a6 (k + 1) k6, by omega, by go_num, ?_, d6.set 2 _, T6.setp 2 _⟩
                rw [HS.out]
                exact ownsRow_setCell_below (by simpa using ho6) (by show w1.heap.size < _; omega) _
              case measure => simp [intOf]; omega
            · obtain rfl : k = rs.length := by omega
              rw [List.take_of_length_le (by omega)] at ho
              have RI : Ints .i64 wr (.slice a5 rs.length k5) rs := ints_of_own ho (fun x hx => by
                have := bounds_u8 (HWR.out x hx)
                simp [Lit.wf, IntKind.min, IntKind.max, IntKind.signed, IntKind.bits]; omega)
              have r5 := r1.two T5 (by omega) (by omega)
              obtain ⟨d50, d51, d52, d53⟩ := d5.at3
              have e8 : ¬ ((rs.length : Int) < ((l.length - (j + 8) : Nat) : Int)) := by have := HLEN.out; omega
              go_wp2_with fail
              refine (llvalid_any n z _ rs wr RI).mono ?_
              rintro e w7 ⟨rfl, g7⟩
              have d7 := d5.keep g7
              have r7 := r5.keep g7
              have G7 := G5.trans' g7
              have RI7 := RI.grown g7
              have hz7 := g7.size
              clear d50 d51 d52 d53 g7
              obtain ⟨d70, d71, d72, d73⟩ := d7.at3
              obtain ⟨r70, r71, r72, r73⟩ := r7.at3
              by_cases hv : llE n rs = 0
              · have HF := Lib.hid (HE.out hv)
                rw [hv]
                clear hv
                go_wp2
                refine bodyPost_ret (v := .tuple #[.agg #[.int .i64 n, .int .u64 z, .slice a5 rs.length k5], .int .i64 0]) ?_ rfl ⟨_, by rw [HF.out], ?_, hfr.mono (by omega), ?_⟩
                · simp [results, Try.results30, go_sem, r70, r71, r72]
                · rw [HF.out]
                  repeat (with_reducible refine Ints.setF ?_ hfr _ (by omega))
                  exact RI7
                · repeat (with_reducible refine grown_set ?_ _ (by omega))
                  exact G7
              · have HF := Lib.hid (HN.out hv)
                generalize llE n rs = E at *
                have hb1 : (E != 0) = true := by rw [bne_iff_ne]; exact hv
                clear hv
                go_wp2
                refine bodyPost_ret (v := .tuple #[.agg #[.int .i64 0, .int .u64 0, .slice none 0 0], .int .i64 2]) ?_ rfl ⟨_, by rw [HF.out], ?_, fresh_nil _ _ _, ?_⟩
                · simp [results, Try.results30, go_sem, r70, r71, r72]
                · rw [HF.out]; exact ints_nil _ _
                · repeat (with_reducible refine grown_set ?_ _ (by omega))
                  exact G7
        · have hbl : (((l.length - (j + 8) : Nat) : Int) != wrap64 (2 ^ n.toNat)) = true := by rw [hsh, bne_iff_ne]; omega
          have HF : Hid (llD l = (0, 0, [], 2)) := by show _ = _; rw [hDD]; unfold llDo; rw [if_pos (fun e => hl (by have := (llE_ok e).2.1; omega))]
          clear hD hDD hsh hl hlen hwr hv
          go_enter Try.func30, Try.ntmps30
          go_wp2_with fail
          refine (C1.out _ (grown_alloc _ _)).mono ?_
          rintro e w1 ⟨rfl, hw1⟩
          have r1 : Blk w.heap.size #[.int .i64 0, .int .u64 0, .slice none 0 0] 26 w1 := by rw [← hw1]; exact Blk.new _ _ _
          have G1 : w.grownBy w1 none := by rw [← hw1]; exact grown_alloc _ _
          have hz1 := r1.lt
          clear hw1
          obtain ⟨r10, r11, r12, r13⟩ := r1.at3
          go_wp2_with fail
          refine (bitsok_yes _ _ ⟨q1, q2⟩).mono ?_
          rintro e w2 ⟨rfl, rfl⟩
          go_wp2_with fail
          refine (C2.out _ _ (I3.out.grown G1)).mono ?_
          rintro e w2 ⟨rfl, rfl⟩
          go_wp2
          all_goals
            refine bodyPost_ret (v := .tuple #[.agg #[.int .i64 0, .int .u64 0, .slice none 0 0], .int .i64 2]) ?_ rfl ⟨_, by rw [HF.out], ?_, fresh_nil _ _ _, ?_⟩
            · simp [results, Try.results30, go_sem, r10, r11, r12]
            · rw [HF.out]; exact ints_nil _ _
            · repeat (with_reducible refine grown_set ?_ _ (by omega))
              exact G1
      · have hm : m = 0 := hde he2
        subst hm
        have hen : (e2 != 0) = true := by rw [bne_iff_ne]; exact he2
        have HF : Hid (llD l = (0, 0, [], 2)) := by show _ = _; rw [hD]; unfold llDr; rw [if_pos (.inr he2)]
        clear hdo hde hErr c2 hp hD hsh hv he2
        go_enter Try.func30, Try.ntmps30
        go_wp2_with fail
        refine (C1.out _ (grown_alloc _ _)).mono ?_
        rintro e w1 ⟨rfl, hw1⟩
        have r1 : Blk w.heap.size #[.int .i64 0, .int .u64 0, .slice none 0 0] 26 w1 := by rw [← hw1]; exact Blk.new _ _ _
        have G1 : w.grownBy w1 none := by rw [← hw1]; exact grown_alloc _ _
        have hz1 := r1.lt
        clear hw1
        obtain ⟨r10, r11, r12, r13⟩ := r1.at3
        go_wp2_with fail
        refine (bitsok_yes _ _ ⟨q1, q2⟩).mono ?_
        rintro e w2 ⟨rfl, rfl⟩
        go_wp2_with fail
        all_goals
          have hI := (ints_cut HV.out hj).grown G1
          first | rw [if_neg (by assumption)] at hI | rw [if_pos (by assumption), show cap - j = 0 by omega] at hI
          refine (C2.out _ _ hI).mono ?_
          rintro e w2 ⟨rfl, rfl⟩
          go_wp2
          refine bodyPost_ret (v := .tuple #[.agg #[.int .i64 0, .int .u64 0, .slice none 0 0], .int .i64 2]) ?_ rfl ⟨_, by rw [HF.out], ?_, fresh_nil _ _ _, ?_⟩
          · simp [results, Try.results30, go_sem, r10, r11, r12]
          · rw [HF.out]; exact ints_nil _ _
          · repeat (with_reducible refine grown_set ?_ _ (by omega))
            exact G1
    · have HF := Lib.hid (hErr (.inr hp))
      have hp' : ¬ (2 ≤ n ∧ n ≤ 8) := hp
      have HP' := Lib.hid hp'
      clear hErr hp hp' hD hv
      go_enter Try.func30, Try.ntmps30
      go_wp2_with fail
      refine (C1.out _ (grown_alloc _ _)).mono ?_
      rintro e w1 ⟨rfl, hw1⟩
      have r1 : Blk w.heap.size #[.int .i64 0, .int .u64 0, .slice none 0 0] 26 w1 := by rw [← hw1]; exact Blk.new _ _ _
      have G1 : w.grownBy w1 none := by rw [← hw1]; exact grown_alloc _ _
      have hz1 := r1.lt
      clear hw1
      obtain ⟨r10, r11, r12, r13⟩ := r1.at3
      go_wp2_with fail
      refine (bitsok_no _ _ HP'.out).mono ?_
      rintro e w2 ⟨rfl, rfl⟩
      go_wp2
      all_goals
        refine bodyPost_ret (v := .tuple #[.agg #[.int .i64 0, .int .u64 0, .slice none 0 0], .int .i64 2]) ?_ rfl ⟨_, by rw [HF.out], ?_, fresh_nil _ _ _, ?_⟩
        · simp [results, Try.results30, go_sem, r10, r11, r12]
        · rw [HF.out]; exact ints_nil _ _
        · repeat (with_reducible refine grown_set ?_ _ (by omega))
          exact G1
  · have HF := Lib.hid (hErr (.inl he))
    have hen : (er != 0) = true := by rw [bne_iff_ne]; exact he
    clear hErr hD hv hok he
    go_enter Try.func30, Try.ntmps30
    go_wp2_with fail
    refine (C1.out _ (grown_alloc _ _)).mono ?_
    rintro e w1 ⟨rfl, hw1⟩
    have r1 : Blk w.heap.size #[.int .i64 0, .int .u64 0, .slice none 0 0] 26 w1 := by rw [← hw1]; exact Blk.new _ _ _
    have G1 : w.grownBy w1 none := by rw [← hw1]; exact grown_alloc _ _
    have hz1 := r1.lt
    clear hw1
    obtain ⟨r10, r11, r12, r13⟩ := r1.at3
    go_wp2
    all_goals
      refine bodyPost_ret (v := .tuple #[.agg #[.int .i64 0, .int .u64 0, .slice none 0 0], .int .i64 2]) ?_ rfl ⟨_, by rw [HF.out], ?_, fresh_nil _ _ _, ?_⟩
      · simp [results, Try.results30, go_sem, r10, r11, r12]
      · rw [HF.out]; exact ints_nil _ _
      · repeat (with_reducible refine grown_set ?_ _ (by omega))
        exact G1
end Go.Proofs.Ythohjekfffebkaa
