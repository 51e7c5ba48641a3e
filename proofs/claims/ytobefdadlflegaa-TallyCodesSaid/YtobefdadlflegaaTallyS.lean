/- The walk of Decode of tallies. Conditions: the bytes lie in memory. -/
import Derived.Test.YtobefdadlflegaaTallyR
namespace Go.Proofs.Ytobefdadlflegaa
open Go.RowKit Go.ChangeShapes Go.WideShapes
set_option linter.unusedVariables false
set_option linter.unusedSimpArgs false
theorem reads_more {l ns rest : List Int} {j : Nat} (h : reads 3 l = (reads (j + 1) rest).map (fun r => (ns ++ r.1, r.2))) (he : (decU rest).2.2 = 0) :
    reads 3 l = (reads j (rest.drop (decU rest).2.1.toNat)).map (fun r => ((ns ++ [(decU rest).1]) ++ r.1, r.2)) := by
  rw [h, reads_step, if_neg (by simpa using he)]
  cases reads j (rest.drop (decU rest).2.1.toNat) with
  | none => rfl
  | some r => simp
theorem reads_stop {l ns rest : List Int} {j : Nat} (h : reads 3 l = (reads (j + 1) rest).map (fun r => (ns ++ r.1, r.2))) (he : (decU rest).2.2 ≠ 0) : reads 3 l = none := by
  rw [h, reads_step, if_pos he]; rfl
theorem arr_set {A k : Nat} {ns : List Int} {n : Int} {w : World} (h : RCell A (.int .i64 (gI ns 0)) (.int .i64 (gI ns 1)) (.int .i64 (gI ns 2)) w) (hk : ns.length = k) (hlt : k < 3) :
    RCell A (.int .i64 (gI (ns ++ [n]) 0)) (.int .i64 (gI (ns ++ [n]) 1)) (.int .i64 (gI (ns ++ [n]) 2)) (w.setCell ⟨A, k, none⟩ (.int .i64 n)) := by
  obtain ⟨h0, h1, h2, h3, h4⟩ := h
  have hk3 : k = 0 ∨ k = 1 ∨ k = 2 := by omega
  rcases hk3 with rfl | rfl | rfl
  · obtain rfl := List.eq_nil_of_length_eq_zero hk
    exact ⟨by simpa using h0, by simp [go_sem, h1, gI], by simp [go_sem, h2, gI], by simp [go_sem, h3, gI], fun o => by simp [go_sem, h4]⟩
  · match ns, hk with
    | [a], _ => exact ⟨by simpa using h0, by simp [go_sem, h1, gI], by simp [go_sem, h2, gI], by simp [go_sem, h3, gI], fun o => by simp [go_sem, h4]⟩
  · match ns, hk with
    | [a, b], _ => exact ⟨by simpa using h0, by simp [go_sem, h1, gI], by simp [go_sem, h2, gI], by simp [go_sem, h3, gI], fun o => by simp [go_sem, h4]⟩
set_option maxRecDepth 100000 in
set_option maxHeartbeats 3200000 in
theorem dect_any (v : Value) (l : List Int) (w : World) (hv : Ints .u8 w v l) :
    Calls Try.prog 20 #[v] w fun e w' => e = .returned (tvr (decTa l)) ∧ w.grownBy w' none := by
  have hw := hv.wfs
  have HW := Lib.hid hw
  have HV := Lib.hid hv
  have ht0 : Hid (reads 3 l = (reads (3 - 0) l).map (fun r => ([] ++ r.1, r.2))) := by
    show _ = _
    cases reads 3 l <;> simp
  clear hw hv
  go_enter Try.func20, Try.ntmps20
  go_wp2_with fail
  go_loopw [5, 14] (fun rv i wr => ∃ (k : Nat) (ns rest : List Int), k ≤ 3 ∧ i = .int .i64 k ∧ ns.length = k ∧ Hid (reads 3 l = (reads (3 - k) rest).map (fun r => (ns ++ r.1, r.2))) ∧ Ints .u8 w rv rest
    ∧ RCell (w.heap.size + 1) (.int .i64 (gI ns 0)) (.int .i64 (gI ns 1)) (.int .i64 (gI ns 2)) wr ∧ RCell w.heap.size (.int .i64 0) (.int .i64 0) (.bool false) wr ∧ w.grownBy wr none) (fun _ i _ => 3 - (intOf i).toNat)
  case atStart =>
    exact ⟨0, [], l, by omega, rfl, rfl, ht0, HV.out, ⟨by simp, by simp [go_sem, gI], by simp [go_sem, gI], by simp [go_sem, gI], fun o => by simp [go_sem]⟩,
      ⟨by simp; omega, by simp [go_sem], by simp [go_sem], by simp [go_sem], fun o => by simp [go_sem]⟩, (grown_alloc _ _).trans' (grown_alloc _ _)⟩
  case round =>
    clear ht0
    obtain ⟨k, ns, rest, hk, rfl, hns, hrd, hI, hA, hB, hg⟩ := hrel
    have HNS := Lib.hid hns
    clear hns
    by_cases hlt : k < 3
    · obtain ⟨a, cap, rfl⟩ := hI.shape
      obtain ⟨a', cap', e', h1, h2, _⟩ := id hI
      cases e'
      have c1 := decUint_any _ rest wr (hI.grown hg)
      have hok := fun (h : (decU rest).2.2 = 0) => decU_ok (l := rest) hI.wfs (n := (decU rest).1) (k := (decU rest).2.1) (by rw [← h])
      have m1 := fun (j : Nat) (hj : 3 - k = j + 1) (he : (decU rest).2.2 = 0) => reads_more (j := j) (hj ▸ hrd.out) he
      have m2 := fun (j : Nat) (hj : 3 - k = j + 1) (he : (decU rest).2.2 ≠ 0) => reads_stop (j := j) (hj ▸ hrd.out) he
      have M1 := Lib.hid m1
      have M2 := Lib.hid m2
      clear m1 m2 hrd
      generalize decU rest = dd at *
      obtain ⟨n, u, er⟩ := dd
      simp only [tri] at c1
      have C1 := Lib.hid c1
      have HOK := Lib.hid hok
      have HI := Lib.hid hI
      clear c1 hok hI
      obtain ⟨b0, b1, b2, b3, b4⟩ := id hB
      by_cases he : er = 0
      · subst he
        obtain ⟨j, rfl⟩ : ∃ j : Nat, u = j := ⟨u.toNat, by have := HOK.out rfl; simp only at this; omega⟩
        have hj : j ≤ rest.length := by have := HOK.out rfl; simp only at this; omega
        have e1 : (0 : Int) ≤ j := by omega
        have e2 : (j : Int) ≤ rest.length := by omega
        have e3 : (rest.length : Int) ≤ cap := by omega
        have e4 : (0 : Int) ≤ k := by omega
        have e5 : (k : Int) < 3 := by omega
        go_wp2_with fail
        refine C1.out.mono ?_
        rintro e w2 ⟨rfl, rfl⟩
        go_wp2_with fail
        obtain ⟨a0, a1, a2, a3, a4⟩ := id hA
        have hk3 : k = 0 ∨ k = 1 ∨ k = 2 := by omega
        have HC := Lib.hid (ints_cut HI.out hj)
        have HM := Lib.hid (M1.out (2 - k) (by omega) (by simp))
        have HN := Lib.hid (arr_set (n := n) hA HNS.out hlt)
        clear M1 M2 HI HOK
        rcases hk3 with rfl | rfl | rfl
        all_goals
          go_region
          generalize (if cap = j then a else Option.map (fun x => x.add j) a) = aa at *
          go_wp2
          go_roundw
          case rel =>
            exact ⟨ns.length + 1, ns ++ [n], rest.drop j, by have := HNS.out; omega, by rw [HNS.out]; first | rfl | go_num, by simp, by show _ = _; rw [HNS.out]; simpa using HM.out, HC.out, (HN.out).keep (grown_drew1 _), (hB.rdr (grown_cell wr _ _ _) (by omega)).keep (grown_drew1 _), (grown_set hg _ (by omega)).trans' (grown_drew1 _)⟩
          case measure => simp [intOf]
      · have hen : (er != 0) = true := by rw [bne_iff_ne]; exact he
        have hz : Hid (decTa l = (0, 0, false, 2)) := by
          show _ = _
          unfold decTa; rw [M2.out (2 - k) (by omega) he]; rfl
        clear he M1 M2 HOK HI hA hB
        go_wp2_with fail
        refine C1.out.mono ?_
        rintro e w2 ⟨rfl, rfl⟩
        go_wp2
        refine bodyPost_ret (v := tvr (0, 0, false, 2)) ?_ rfl ⟨by rw [hz.out], ?_⟩
        · simp [results, Try.results20, go_sem, tvr, b1, b2, b3]
        · exact grown_set (grown_set (grown_set hg _ (Nat.le_refl _)) _ (Nat.le_refl _)) _ (Nat.le_refl _)
    · have hk3 : k = 3 := by omega
      subst hk3
      obtain ⟨x0, x1, x2, rfl⟩ : ∃ a b c, ns = [a, b, c] := by
        match ns, HNS.out with
        | [a, b, c], _ => exact ⟨a, b, c, rfl⟩
      have hrd' : reads 3 l = some ([x0, x1, x2], rest) := by have := hrd.out; simpa [reads] using this
      have hd : decTa l = if valE x0 x1 = 0 ∧ x2 ≤ 1 ∧ rest = [] then (x0, x1, x2 == 1, 0) else (0, 0, false, 2) := by unfold decTa; rw [hrd']; rfl
      have hac := fun h => decT_accept HW.out hrd' h
      have hR : ∀ m ∈ [x0, x1, x2], 0 ≤ m ∧ m ≤ 4611686018427387904 := (reads_enc 3 l _ _ HW.out hrd').2.2
      clear hrd hrd' hlt hk HNS hI
      have HR := Lib.hid hR
      have HD := Lib.hid hd
      have HAC := Lib.hid hac
      clear hR hd hac
      obtain ⟨a0, a1, a2, a3, a4⟩ := id hA
      have z0 : gI [x0, x1, x2] 0 = x0 := rfl
      have z1 : gI [x0, x1, x2] 1 = x1 := rfl
      have z2 : gI [x0, x1, x2] 2 = x2 := rfl
      rw [z0] at a1
      rw [z1] at a2
      rw [z2] at a3
      clear z0 z1 z2 hA
      go_wp2_with fail
      generalize hs : (x2 == 1) = s3
      rw [hs] at HD HAC
      clear hs
      have hB2 := hB.keep (grown_alloc wr (.cells #[.int .i64 x0, .int .i64 x1, .bool s3] 23))
      refine (enct_any x0 x1 s3 _).mono ?_
      rintro e w2 ⟨u, rfl, hu, g2⟩
      have hz2 : wr.heap.size + 1 ≤ w2.heap.size := by simpa using g2.size
      have hB3 := hB2.keep g2
      have G2 := (hg.trans' (grown_alloc _ _)).trans' g2
      obtain ⟨y, ya, yb, yc, yf⟩ := hB3
      have q0 : w2.cell? ⟨wr.heap.size, 0, none⟩ = some (.int .i64 x0) := kcell g2 (by simp [go_sem]) (by simp)
      have q1 : w2.cell? ⟨wr.heap.size, 1, none⟩ = some (.int .i64 x1) := kcell g2 (by simp [go_sem]) (by simp)
      have q2 : w2.cell? ⟨wr.heap.size, 2, none⟩ = some (.bool s3) := kcell g2 (by simp [go_sem]) (by simp)
      clear hB hB2 hg
      by_cases hv : valE x0 x1 = 0
      · have hb : (valE x0 x1 != 0) = false := by rw [bne_eq_false_iff_eq]; exact hv
        have hE : ∀ c ∈ encTL x0 x1 s3, (Lit.int .u8 c).wf = true := by
          intro c hc
          unfold encTL at hc
          rw [if_neg (by simpa using hv)] at hc
          have h0 := HR.out x0 (by simp)
          have h1 := HR.out x1 (by simp)
          simp only [List.mem_append, List.mem_singleton] at hc
          rcases hc with (hc | hc) | rfl
          · exact wf_encU _ h0.1 c hc
          · exact wf_encU _ h1.1 c hc
          · cases s3 <;> exact wf_u8 (by simp) (by simp)
        have cv1 := run_string (P := Try.prog) (ints_of_own hu hE) Try.underlying40 Try.underlying5 Try.underlying9
        have cv2 := run_string (P := Try.prog) (HV.out.grown G2) Try.underlying40 Try.underlying5 Try.underlying9
        by_cases hq : encTL x0 x1 s3 = l
        · have HF : Hid (decTa l = (x0, x1, s3, 0)) := by
            show _ = _
            rw [HD.out, if_pos ⟨hv, (HAC.out hv).1 hq⟩]
          rw [hq] at cv1
          clear hv HD HAC hu hq
          generalize strOfNums l = A2 at *
          have yz : w.heap.size ≠ wr.heap.size := by omega
          go_wp2
          refine bodyPost_ret (v := tvr (x0, x1, s3, 0)) ?_ rfl ⟨by rw [HF.out], ?_⟩
          · simp [results, Try.results20, go_sem, tvr, ya, yb, yc]
          · exact grown_set (grown_set (grown_set G2 _ (Nat.le_refl _)) _ (Nat.le_refl _)) _ (Nat.le_refl _)
        · have HF : Hid (decTa l = (0, 0, false, 2)) := by
            show _ = _
            rw [HD.out, if_neg (fun h => hq ((HAC.out hv).2 h.2))]
          have hne : ((strOfNums (encTL x0 x1 s3)).toList == (strOfNums l).toList) = false := by
            rw [beq_eq_false_iff_ne]; exact fun h => hq ((strOfNums_eq hE HW.out).1 (bytes_ext h))
          clear hv HD HAC hu hq
          generalize strOfNums (encTL x0 x1 s3) = A1 at *
          generalize strOfNums l = A2 at *
          go_wp2
          refine bodyPost_ret (v := tvr (0, 0, false, 2)) ?_ rfl ⟨by rw [HF.out], ?_⟩
          · simp [results, Try.results20, go_sem, tvr, ya, yb, yc]
          · exact grown_set (grown_set (grown_set G2 _ (Nat.le_refl _)) _ (Nat.le_refl _)) _ (Nat.le_refl _)
      · have hb : (valE x0 x1 != 0) = true := by rw [bne_iff_ne]; exact hv
        have HF : Hid (decTa l = (0, 0, false, 2)) := by
          show _ = _
          rw [HD.out, if_neg (fun h => hv h.1)]
        clear hv HD HAC hu
        go_wp2
        refine bodyPost_ret (v := tvr (0, 0, false, 2)) ?_ rfl ⟨by rw [HF.out], ?_⟩
        · simp [results, Try.results20, go_sem, tvr, ya, yb, yc]
        · exact grown_set (grown_set (grown_set G2 _ (Nat.le_refl _)) _ (Nat.le_refl _)) _ (Nat.le_refl _)
end Go.Proofs.Ytobefdadlflegaa
