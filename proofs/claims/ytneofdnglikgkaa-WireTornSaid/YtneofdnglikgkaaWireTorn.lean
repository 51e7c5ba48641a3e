/- The walk of WireTorn. Conditions: what the theorem takes. -/
import Derived.Test.YtneofdnglikgkaaWireLaws
import Derived.Test.YtneofdnglikgkaaWireTornLaw
import Derived.Test.YtneofdnglikgkaaBits
namespace Go.Proofs.Ytneofdnglikgkaa
open Go.RowKit Go.ChangeShapes Go.WideShapes
set_option linter.unusedVariables false
set_option linter.unusedSimpArgs false
set_option maxRecDepth 100000 in
set_option maxHeartbeats 3200000 in
theorem WireTorn_walk (a0 : Int) (v1 : Value) (l1 : List Int) (v2 : Value) (l2 : List Int) (a3 a4 : Int) (w : World) (h0 : (Lit.int .u8 a0).wf = true) (h1 : Ints .u8 w v1 l1) (s1 : l1.length * Try.prog.bytesOf 5 ≤ 140737488351232)
    (h2 : Ints .u8 w v2 l2) (s2 : l2.length * Try.prog.bytesOf 5 ≤ 140737488351232) (h3 : (Lit.int .i64 a3).wf = true) (h4 : (Lit.int .u8 a4).wf = true) :
    Calls Try.prog 9 #[.int .u8 a0, v1, v2, .int .i64 a3, .int .u8 a4] w fun e w' => e = .returned (.bool true) ∧ Below w.heap.size w w' := by
  have hv1 := h1
  have hv2 := h2
  have b0 := bounds_u8 h0
  have b4 := bounds_u8 h4
  obtain ⟨aa1, cap1, rfl, p1, p2, p3, p4⟩ := h1
  obtain ⟨aa2, cap2, rfl, q1, q2, q3, q4⟩ := h2
  clear p4 q4
  unfold maxLen at p2 q2
  by_cases hl1 : l1.length ≤ 200
  · by_cases hl2 : l2.length ≤ 100
    · have hwF := wf_frameL a0 l1 h0 p3
      have hE : frameE l1 = 0 := by unfold frameE; rw [if_neg (by omega)]
      have h9 := length_encU l1.length
      have hk1 : 1 ≤ (encU (l1.length : Int)).length := by unfold encU; split <;> simp
      have hFl : (frameL a0 l1).length = 1 + (encU l1.length).length + l1.length + 4 := by
        unfold frameL
        rw [if_neg (by omega), List.length_append, length_headL, length_beB]
      have hR := unf_frame a0 l1 l2 (by omega)
      have hCut := unf_cut a0 l1 (by omega)
      have hTorn := unf_torn a0 l1 (by omega)
      have hGet : ∀ q, q < l1.length → gI (frameL a0 l1) (1 + (encU l1.length).length + q) = gI l1 q := by
        intro q hq
        have : frameL a0 l1 = (a0 :: encU l1.length) ++ (l1 ++ beB 4 (chk (headL a0 l1))) := by unfold frameL; rw [if_neg (by omega)]; simp [headL]
        rw [this, show 1 + (encU l1.length).length + q = (a0 :: encU l1.length).length + q from by simp; omega, gI_append_right]
        simp [gI, List.getD_eq_getElem?_getD, List.getElem?_append_left hq]
      have FA := fun (w : World) (hv : Ints .u8 w (.slice aa1 l1.length cap1) l1) => frame_any a0 _ l1 w h0 hv
      rw [hE] at FA
      generalize frameL a0 l1 = f at *
      generalize hkk : (encU (l1.length : Int)).length = k at *
      have hfb : f.length ≤ 220 := by omega
      have HWF := Lib.hid hwF
      have HE := Lib.hid hE
      have HFl := Lib.hid hFl
      have HR := Lib.hid hR
      have HCut := Lib.hid hCut
      have HTorn := Lib.hid hTorn
      have HGet := Lib.hid hGet
      have P3 := Lib.hid p3
      have Q3 := Lib.hid q3
      have hf6 : l1.length + 6 ≤ f.length := by omega
      have HFA := Lib.hid FA
      clear FA hwF hE hFl hR hCut hTorn hGet p3 q3 hkk
      go_enter Try.func9, Try.ntmps9
      go_wp2_with fail
      refine (HFA.out _ hv1).mono ?_
      rintro e w1 ⟨vb, rfl, hob, g1⟩
      have hIb := ints_of_own hob HWF.out
      obtain ⟨ab, cb, rfl, hcb, hcb2⟩ := own_shape hob
      have z1 := g1.size
      go_wp2_with (at_builtin; refine wpList_appS _ rfl _ _ 24 24 rfl w.heap.size 5 (.int .u8 0) 1 1 Try.underlying24 Try.infoU8 rfl (by decide) _ _ 0 _ [] _ (World.ownsRow_nil w1 _ _ _) rfl rfl (hIb.src Try.underlying24) (by unfold maxLen; omega) (by omega) z1 ?_)
      intro vc w2 hoc g2 hb2
      try simp only [Nat.zero_add, List.nil_append] at hoc
      have g12 := g1.trans' (grown_trans (grown_refl w1) g2 (by intro k hk; cases hk))
      have g2' : w1.grownBy w2 none := grown_trans (grown_refl w1) g2 (by intro k hk; cases hk)
      clear g2
      have z2 := g12.size
      go_wp2_with (at_builtin; refine wpList_appS _ rfl _ _ 24 24 rfl w.heap.size 5 (.int .u8 0) 1 1 Try.underlying24 Try.infoU8 rfl (by decide) _ _ _ _ _ _ hoc rfl rfl ((hv2.grown g12).src Try.underlying24) (by unfold maxLen; omega) (by omega) z2 ?_)
      intro vd w3 hod g3 _
      have g13 : w1.grownBy w3 none := grown_trans g2' g3 (by
        intro k hk
        rcases hb2 with h | h
        · rw [h] at hk; cases hk
        · rw [h] at hk; cases hk; exact Nat.le_refl _)
      have hod' : w3.ownsRow w.heap.size 5 1 vd (f ++ l2).length ((f ++ l2).map (.int .u8)) := by
        rw [List.length_append, List.map_append]; exact hod
      have hId := ints_of_own hod' (fun n hn => by
        rcases List.mem_append.1 hn with h | h
        · exact HWF.out n h
        · exact Q3.out n h)
      clear hoc hod hod' g3 hb2 g12 z2
      go_wp2_with fail
      refine (unf_any _ _ _ hId).mono ?_
      rintro e w4 hpost
      rw [HR.out] at hpost
      obtain ⟨ve, rfl, hoe, g4⟩ := hpost
      dsimp only at hoe
      have hIe := ints_of_own hoe P3.out
      obtain ⟨ae, ce, rfl, _, _⟩ := own_shape hoe
      have g14 := g13.trans' g4
      have g04 := g1.trans' g14
      have se := run_string (P := Try.prog) hIe Try.underlying24 Try.underlying5 Try.underlying9
      have s1' := run_string (P := Try.prog) (hv1.grown g04) Try.underlying24 Try.underlying5 Try.underlying9
      have hIb4 := hIb.grown g14
      clear hoe hIe hId hIb
      go_wp2
      go_loopw [17] (fun i wr => ∃ j : Nat, j ≤ f.length ∧ i = .int .i64 j ∧ w4.grownBy wr none) (fun i _ => f.length - (intOf i).toNat)
      case atStart => exact ⟨0, by omega, rfl, grown_refl _⟩
      case round =>
        obtain ⟨j, hj, rfl, gr⟩ := hrel
        clear se s1'
        have hIbr := hIb4.grown gr
        by_cases hlt : j < f.length
        · have hsub : Ints .u8 wr (.slice ab j cb) (f.take j) := ints_prefix hIbr (by omega)
          have hcutj := HCut.out j hlt
          have HCJ := Lib.hid hcutj
          clear hcutj
          go_wp2_with fail
          refine (unf_any _ _ _ hsub).mono ?_
          rintro e w5 hpost
          rw [HCJ.out] at hpost
          obtain ⟨vf, rfl, _, g5⟩ := hpost
          go_wp2
          go_roundw
          case rel => exact ⟨j + 1, by omega, by go_num, gr.trans' g5⟩
          case measure => simp [intOf]; omega
        · have hjf : j = f.length := by omega
          subst hjf
          clear hlt hj
          by_cases hz : l1.length = 0
          · have hz' : ((l1.length : Int) == 0) = true := beq_iff_eq.2 (by omega)
            clear hz
            go_wp2_with (go_at_call 10; refine (wire_known_any _).mono ?_; rintro e w' ⟨rfl, hk⟩)
            go_ret
            exact ⟨rfl, below_of_grown ((g04.trans' gr).trans' hk)⟩
          · have hz' : ((l1.length : Int) == 0) = false := beq_eq_false_iff_ne.2 (by omega)
            by_cases hy : a4 = 0
            · have hy' : (a4 == 0) = true := beq_iff_eq.2 hy
              clear hz hy
              go_wp2_with (go_at_call 10; refine (wire_known_any _).mono ?_; rintro e w' ⟨rfl, hk⟩)
              go_ret
              exact ⟨rfl, below_of_grown ((g04.trans' gr).trans' hk)⟩
            · have hy' : (a4 == 0) = false := beq_eq_false_iff_ne.2 hy
              have hHy : Hid (a4 ≠ 0) := hy
              have hm := and_mask a3 16 (by omega) 65535 (by decide)
              obtain ⟨M, hM, hM2⟩ : ∃ M : Nat, a3 % 2 ^ 16 = M ∧ M < 65536 := ⟨(a3 % 2 ^ 16).toNat, by omega, by omega⟩
              rw [hM] at hm
              have zr := (g04.trans' gr).size
              have hq : M % l1.length < l1.length := Nat.mod_lt _ (by omega)
              have hq1 : 0 ≤ (M : Int) % l1.length := Int.emod_nonneg _ (by omega)
              have hq2 : (M : Int) % l1.length < l1.length := Int.emod_lt_of_pos _ (by omega)
              clear hy hM
              go_wp2_with (at_builtin; refine wpList_appS _ rfl _ _ 24 24 rfl w.heap.size 5 (.int .u8 0) 1 1 Try.underlying24 Try.infoU8 rfl (by decide) _ _ 0 _ [] _ (World.ownsRow_nil wr _ _ _) rfl rfl (hIbr.src Try.underlying24) (by unfold maxLen; omega) (by omega) zr ?_)
              intro vg w6 hog g6 _
              try simp only [Nat.zero_add, List.nil_append] at hog
              have g06 := (g04.trans' gr).trans' (grown_trans (grown_refl wr) g6 (by intro k hk; cases hk))
              obtain ⟨gg, cg, rfl⟩ : ∃ g c, vg = .slice (some ⟨g, 0, none⟩) f.length c := by
                rcases hog.2 with ⟨_, h⟩ | ⟨g, c, cur, h, _⟩
                · omega
                · exact ⟨g, c, h⟩
              obtain ⟨ag, cgg, he, hcg, hcg2⟩ := own_shape hog
              cases he
              have hcell : w6.cell? ⟨gg, f.length - 4 - l1.length + M % l1.length, none⟩ = some (.int .u8 (gI f (f.length - 4 - l1.length + M % l1.length))) := by
                rw [hog.cellAt _ (by omega), List.getElem?_map, List.getElem?_eq_getElem (by omega), gI_eq (by omega)]
                rfl
              have hfz := hog.frozenAt (f.length - 4 - l1.length + M % l1.length)
              go_wp2_with fail
              have hst := hog.stored (f.length - 4 - l1.length + M % l1.length) (.int .u8 (bits BinOp.xor IntKind.u8 (gI f (f.length - 4 - l1.length + M % l1.length)) a4))
              have hfl := HFl.out
              have hp : f.length - 4 - l1.length + M % l1.length = 1 + k + M % l1.length := by omega
              have hgp := HGet.out (M % l1.length) hq
              have gq := gI_u8 P3.out (M % l1.length)
              have hxr := bounds_u8 (wf_bits BinOp.xor IntKind.u8 (gI l1 (M % l1.length)) a4)
              have hne := xor_u8_ne gq.1 gq.2 b4.1 b4.2 hHy.out
              have hT := HTorn.out (M % l1.length) hq _ hxr gq hne
              rw [hp, hgp] at hst ⊢
              have gst : w.grownBy _ none := grown_trans g06 hst.2 (by intro j hj; cases hj; exact (hog.lt gg rfl).1)
              have hos : (w6.setCell ⟨gg, 1 + k + M % l1.length, none⟩ (.int .u8 (bits BinOp.xor IntKind.u8 (gI l1 (M % l1.length)) a4))).ownsRow w.heap.size 5 1 (.slice (some ⟨gg, 0, none⟩) f.length cg) (f.set (1 + k + M % l1.length) (bits BinOp.xor IntKind.u8 (gI l1 (M % l1.length)) a4)).length ((f.set (1 + k + M % l1.length) (bits BinOp.xor IntKind.u8 (gI l1 (M % l1.length)) a4)).map (.int .u8)) := by
                rw [List.length_set, List.map_set]; exact hst.1
              have hIs := ints_of_own hos (fun n hn => by
                rcases List.mem_or_eq_of_mem_set hn with h | h
                · exact HWF.out n h
                · rw [h]; exact wf_bits ..)
              refine (unf_any _ _ _ hIs).mono ?_
              rintro e w7 hpost
              rw [hT] at hpost
              obtain ⟨vh, rfl, _, g7⟩ := hpost
              have g07 := gst.trans' g7
              clear hst hfl hp hgp gq hxr hne hT hos hIs gst
              go_wp2_with (go_at_call 10; refine (wire_known_any _).mono ?_; rintro e w' ⟨rfl, hk⟩)
              go_ret
              exact ⟨rfl, below_of_grown (g07.trans' hk)⟩
    · go_enter Try.func9, Try.ntmps9
      go_wp2_with (go_at_call 10; refine (wire_known_any _).mono ?_; rintro e w' ⟨rfl, hk⟩)
      go_ret
      exact ⟨rfl, below_of_grown hk⟩
  · go_enter Try.func9, Try.ntmps9
    go_wp2_with (go_at_call 10; refine (wire_known_any _).mono ?_; rintro e w' ⟨rfl, hk⟩)
    go_ret
    exact ⟨rfl, below_of_grown hk⟩
end Go.Proofs.Ytneofdnglikgkaa
