/- Parts of the proof, laid together. No condition. -/
import Derived.Test.YthlaenafkihjiaaK3
/- What functions compute, and that they do. No condition. -/
namespace Go.Proofs.Ythlaenafkihjiaa
open Go.RowKit
set_option linter.unusedVariables false
set_option linter.unusedSimpArgs false
set_option maxRecDepth 100000
set_option maxHeartbeats 4000000
def W_wire_EncodeUint (a0 : Int) (Q : ((List Int) × Int) → Prop) : Prop :=
 ((((bif decide ((a0) < (0)) then true else decide ((a0) > (4611686018427387904)))) = true → Q (([] : (List Int)), (5))) ∧ (((bif decide ((a0) < (0)) then true else decide ((a0) > (4611686018427387904)))) = false → (((decide ((a0) < (248))) = true → Q (([(IntKind.u8.wrap (a0))]), (0))) ∧ ((decide ((a0) < (248))) = false → jn (fun (p3 : Int) => jn (fun (p7 : (List Int)) => Q ((p7), (0))) (fun (J7 : (List Int) → Prop) => lp (fun (X8 : (List Int) × Int → Prop) (s8 : (List Int) × Int) => (((decide ((s8.2) ≥ (0))) = true → ((0 : Int) ≤ (IntKind.i64.wrap ((8) * (s8.2)))) ∧ (((s8.1).length + ([(IntKind.u8.wrap (iShr .i64 (a0) (IntKind.i64.wrap ((8) * (s8.2)))))]).length) * 1 ≤ 140737488355328) ∧ X8 (((s8.1) ++ ([(IntKind.u8.wrap (iShr .i64 (a0) (IntKind.i64.wrap ((8) * (s8.2)))))])), (IntKind.i64.wrap ((s8.2) - (1))))) ∧ ((decide ((s8.2) ≥ (0))) = false → J7 ((s8.1))))) (([(IntKind.u8.wrap (IntKind.i64.wrap ((247) + (p3))))]), (IntKind.i64.wrap ((p3) - (1)))))) (fun (J3 : Int → Prop) => lp (fun (X4 : Int → Prop) (s4 : Int) => ((decide ((s4) < (8))) = true → ((0 : Int) ≤ (IntKind.i64.wrap ((8) * (s4))))) ∧ ((((bif decide ((s4) < (8)) then decide ((iShr .i64 (a0) (IntKind.i64.wrap ((8) * (s4)))) > (0)) else false)) = true → X4 ((IntKind.i64.wrap ((s4) + (1))))) ∧ (((bif decide ((s4) < (8)) then decide ((iShr .i64 (a0) (IntKind.i64.wrap ((8) * (s4)))) > (0)) else false)) = false → J3 ((s4))))) ((1)))))))
def R_wire_EncodeUint (a0 : Int) (r : (List Int) × Int) : Prop := W_wire_EncodeUint a0 fun x => r = x
theorem e_wire_EncodeUint {a0 : Int} {Post : ((List Int) × Int) → Prop} (h : W_wire_EncodeUint a0 Post) : ∃ r, R_wire_EncodeUint a0 r ∧ Post r := (show GM (W_wire_EncodeUint a0) (W_wire_EncodeUint a0) from GM.cond (GM.ret _) (GM.cond (GM.ret _) (GM.join (fun p3 => GM.join (fun p7 => GM.ret _) (fun _ _ J7 => GM.loop (fun X Y Q s8 X8 h => ⟨fun hc => ⟨((h).1 hc).1, ⟨(((h).1 hc).2).1, X8 _ ((((h).1 hc).2).2)⟩⟩, fun hc => (h).2 hc⟩) (fun _ _ X8 s8 => GM.cond (GM.and (GM.and (X8 _))) (J7 _)))) (fun _ _ J3 => GM.loop (fun X Y Q s4 X4 h => ⟨(h).1, ⟨fun hc => X4 _ (((h).2).1 hc), fun hc => ((h).2).2 hc⟩⟩) (fun _ _ X4 s4 => GM.and (GM.cond (X4 _) (J3 _))))))) Post h
theorem c_wire_EncodeUint (a0 : Int) (r : (List Int) × Int) (h : R_wire_EncodeUint a0 r) : Contract Try.prog 35 [.c (.v (.int .i64 (a0)))] [.c (.own 1 (List.map (eI .u8) (r.1))), .c (.p (.v (.int .i64 (r.2))))] [] := by
  refine contract0 tb Try.func35 rfl (by kernel_rfl) rfl rfl (Nat.le_of_ble_eq_true rfl) rfl ?_
  intro E
  unfold R_wire_EncodeUint W_wire_EncodeUint at h
  refine aw_Q (fun Q hQ => ?_)
  refine tk fun L hL => ?_
  refine asn rfl rfl ?_
  refine asn rfl rfl ?_
  refine rt (hL _ ?_)
  refine sk fun L1 hL1 => ?_
  refine tk fun L hL => ?_
  refine mv rfl ?_
  refine u0 (opL_cmp (c := decide ((a0) < (0))) rfl rfl rfl rfl rfl) ?_
  refine mv rfl ?_
  refine run_g rfl rfl beq_f (fun hg => opL_move_c rfl rfl) ?_
  refine run_g rfl rfl beq_f (fun hg => opL_cmp (c := decide ((a0) > (4611686018427387904))) (gt_t hg) rfl rfl rfl rfl) ?_
  refine u0 (opL_pick_gr (v := .bool (true)) (w := .bool (decide ((a0) > (4611686018427387904)))) rfl rfl beq_f rfl bif_v rfl rfl rfl) ?_
  refine rt (hL _ ?_)
  refine aw_sub (st' := ⟨[(0, .c (.p (.v (.int .i64 (a0))))), (12, .c (.p (.v (.bool ((bif decide ((a0) < (0)) then true else decide ((a0) > (4611686018427387904))))))))], []⟩) (Sub.nm [0, 12] [] rfl rfl) ?_
  refine cnd rfl h (fun h => ?_) fun h => ?_
  · refine tk fun L hL => ?_
    refine asn rfl rfl ?_
    refine asn rfl rfl ?_
    refine rt (hL _ ?_)
    obtain rfl := h
    exact aw_ret (hQ _ _ ⟨.inr rfl, _, _, _, (.cons (.p rfl) (.cons (.p rfl) .nil)), (.cons (.c (.nilo _ (Nat.le_of_ble_eq_true rfl))) (.cons (.c (.p _)) .nil)), rfl, rfl⟩)
  · refine aw_skip (hL1 _ ?_)
    refine sk fun L2 hL2 => ?_
    refine tk fun L hL => ?_
    refine mv rfl ?_
    refine u0 (opL_cmp (c := decide ((a0) < (248))) rfl rfl rfl rfl rfl) ?_
    refine rt (hL _ ?_)
    refine cnd rfl h (fun h => ?_) fun h => ?_
    · refine tk fun L hL => ?_
      refine mv rfl ?_
      refine u0 (opL_conv (T := tb) rfl rfl rfl rfl rfl rfl) ?_
      refine ul (opL_build_sl (T := tb) (rows := List.map (eI .u8) [(IntKind.u8.wrap (a0))]) rfl rfl rfl rfl rfl rfl rfl rfl rfl rfl rfl rfl rfl) ?_
      refine asn rfl rfl ?_
      refine asn rfl rfl ?_
      refine rt (hL _ ?_)
      obtain rfl := h
      exact aw_ret (hQ _ _ ⟨.inr rfl, _, _, _, (.cons (.s rfl) (.cons (.p rfl) .nil)), (.cons (.c (.own rfl rfl)) (.cons (.c (.p _)) .nil)), rfl, rfl⟩)
    · refine aw_skip (hL2 _ ?_)
      refine tk fun L hL => ?_
      refine asn rfl rfl ?_
      refine rt (hL _ ?_)
      refine aw_jn (fun (p3 : Int) => (⟨[(0, .c (.p (.v (.int .i64 (a0))))), (4, .c (.p (.v (.int .i64 (p3)))))], []⟩ : St)) h (fun p3 h => ?_) (fun J3 L3 hL3 h => ?_)
      · refine tk fun L hL => ?_
        refine mv rfl ?_
        refine u0 (opL_add rfl rfl rfl rfl rfl) ?_
        refine u0 (opL_conv (T := tb) rfl rfl rfl rfl rfl rfl) ?_
        refine ul (opL_build_sl (T := tb) (rows := List.map (eI .u8) [(IntKind.u8.wrap (IntKind.i64.wrap ((247) + (p3))))]) rfl rfl rfl rfl rfl rfl rfl rfl rfl rfl rfl rfl rfl) ?_
        refine asn rfl rfl ?_
        refine rt (hL _ ?_)
        refine aw_jn (fun (p7 : (List Int)) => (⟨[(5, .c (.sl (5, 1000) 0 (List.map (eI .u8) (p7)).length))], [((5, 1000), some (.row 1 (List.map (eI .u8) (p7)) true))]⟩ : St)) h (fun p7 h => ?_) (fun J7 L7 hL7 h => ?_)
        · refine tk fun L hL => ?_
          refine mv rfl ?_
          refine asn rfl rfl ?_
          refine asn rfl rfl ?_
          refine rt (hL _ ?_)
          obtain rfl := h
          exact aw_ret (hQ _ _ ⟨.inr rfl, _, _, _, (.cons (.s rfl) (.cons (.p rfl) .nil)), (.cons (.c (.own rfl rfl)) (.cons (.c (.p _)) .nil)), rfl, rfl⟩)
        · refine tk fun L hL => ?_
          refine mv rfl ?_
          refine u0 (opL_sub rfl rfl rfl rfl rfl) ?_
          refine asn rfl rfl ?_
          refine rt (hL _ ?_)
          refine aw_block ?_
          refine aw_lp (fun (s8 : (List Int) × Int) => (⟨[(0, .c (.p (.v (.int .i64 (a0))))), (5, .c (.sl (5, 1000) 0 (List.map (eI .u8) (s8.1)).length)), (6, .c (.p (.v (.int .i64 (s8.2)))))], [((5, 1000), some (.row 1 (List.map (eI .u8) (s8.1)) true))]⟩ : St)) h (Sub.nm [0, 5, 6] [((32, 0), (5, 1000))] rfl (by kernel_rfl)) (fun X8 L8 hL8 s8 h => ?_)
          refine sk fun L9 hL9 => ?_
          refine tk fun L hL => ?_
          refine mv rfl ?_
          refine u0 (opL_cmp (c := decide ((s8.2) ≥ (0))) rfl rfl rfl rfl rfl) ?_
          refine rt (hL _ ?_)
          refine cnd rfl h (fun h => ?_) fun h => ?_
          · refine aw_skip (hL9 _ ?_)
            refine sk fun L10 hL10 => ?_
            refine aw_block ?_
            refine tl fun L hL => ?_
            refine mv rfl ?_
            refine mv rfl ?_
            refine mv rfl ?_
            refine u0 (opL_mul rfl rfl rfl rfl rfl) ?_
            obtain ⟨hz11, h⟩ := h
            refine u0 (o_shr hz11 rfl rfl rfl rfl) ?_
            refine u0 (opL_conv (T := tb) rfl rfl rfl rfl rfl rfl) ?_
            refine ul (opL_build_sl (T := tb) (rows := List.map (eI .u8) [(IntKind.u8.wrap (iShr .i64 (a0) (IntKind.i64.wrap ((8) * (s8.2)))))]) rfl rfl rfl rfl rfl rfl rfl rfl rfl rfl rfl rfl rfl) ?_
            obtain ⟨hm12, h⟩ := h
            refine ul (o_app_sl (T := tb) (f := (eI .u8)) (L := s8.1) (L' := [(IntKind.u8.wrap (iShr .i64 (a0) (IntKind.i64.wrap ((8) * (s8.2)))))]) hm12 rfl rfl rfl rfl rfl rfl rfl rfl rfl rfl rfl (srcT_sl (T := tb) mem_app rfl rfl rfl rfl rfl rfl)) ?_
            refine asn rfl rfl ?_
            refine rt (hL _ (hL10 _ ?_))
            refine tl fun L hL => ?_
            refine mv rfl ?_
            refine u0 (opL_sub rfl rfl rfl rfl rfl) ?_
            refine asn rfl rfl ?_
            refine rt (hL _ (hL8 _ _ h (Sub.nm [0, 5, 6] [((46, 0), (5, 1000))] rfl (by kernel_rfl))))
          · refine aw_exit (hL7 _ _ h (Sub.nm [5] [((5, 1000), (5, 1000))] rfl (by kernel_rfl)))
      · refine aw_block ?_
        refine aw_lp (fun (s4 : Int) => (⟨[(0, .c (.p (.v (.int .i64 (a0))))), (4, .c (.p (.v (.int .i64 (s4)))))], []⟩ : St)) h (Sub.nm [0, 4] [] rfl (by kernel_rfl)) (fun X4 L4 hL4 s4 h => ?_)
        refine sk fun L5 hL5 => ?_
        refine tk fun L hL => ?_
        refine mv rfl ?_
        refine u0 (opL_cmp (c := decide ((s4) < (8))) rfl rfl rfl rfl rfl) ?_
        refine mv rfl ?_
        refine run_g rfl rfl beq_t (fun hg => opL_move_c rfl rfl) ?_
        refine run_g rfl rfl beq_t (fun hg => opL_move_c rfl rfl) ?_
        refine run_g rfl rfl beq_t (fun hg => opL_mul rfl (gt_t hg) rfl rfl rfl) ?_
        obtain ⟨hz6, h⟩ := h
        refine run_g rfl rfl beq_t (fun hg => o_shr (hz6 hg) (gt_t hg) (gt_t hg) rfl rfl) ?_
        refine run_g rfl rfl beq_t (fun hg => opL_cmp (c := decide ((iShr .i64 (a0) (IntKind.i64.wrap ((8) * (s4)))) > (0))) (gt_t hg) rfl rfl rfl rfl) ?_
        refine u0 (opL_pick_gl (v := .bool (decide ((iShr .i64 (a0) (IntKind.i64.wrap ((8) * (s4)))) > (0)))) (w := .bool (false)) rfl rfl beq_t rfl bif_v rfl rfl rfl) ?_
        refine rt (hL _ ?_)
        refine aw_sub (st' := ⟨[(0, .c (.p (.v (.int .i64 (a0))))), (4, .c (.p (.v (.int .i64 (s4))))), (26, .c (.p (.v (.bool ((bif decide ((s4) < (8)) then decide ((iShr .i64 (a0) (IntKind.i64.wrap ((8) * (s4)))) > (0)) else false))))))], []⟩) (Sub.nm [0, 4, 26] [] rfl rfl) ?_
        refine cnd rfl h (fun h => ?_) fun h => ?_
        · refine aw_skip (hL5 _ ?_)
          refine aw_block ?_
          refine tl fun L hL => ?_
          refine mv rfl ?_
          refine u0 (opL_add rfl rfl rfl rfl rfl) ?_
          refine asn rfl rfl ?_
          refine rt (hL _ (hL4 _ _ h (Sub.nm [0, 4] [] rfl (by kernel_rfl))))
        · refine aw_exit (hL3 _ _ h (Sub.nm [0, 4] [] rfl (by kernel_rfl)))
def W_operation_writer_numbers (a0 : T_operation_writer) (a1 : (List Int)) (Q : T_operation_writer → Prop) : Prop :=
 lp (fun (X1 : Int × (List Int) → Prop) (s1 : Int × (List Int)) => (((decide ((s1.1) < (((a1).length : Int)))) = true → ∃ (v4 : Int), ix (a1) (s1.1) v4 ∧ ∃ (v5 : (List Int) × Int), R_wire_EncodeUint (v4) v5 ∧ (((s1.2).length + (v5.1).length) * 1 ≤ 140737488355328) ∧ X1 ((IntKind.i64.wrap ((s1.1) + (1))), ((s1.2) ++ (v5.1)))) ∧ ((decide ((s1.1) < (((a1).length : Int)))) = false → Q ((T_operation_writer.mk (s1.2)))))) ((0), (a0.fb))
def R_operation_writer_numbers (a0 : T_operation_writer) (a1 : (List Int)) (r : T_operation_writer) : Prop := W_operation_writer_numbers a0 a1 fun x => r = x
theorem e_operation_writer_numbers {a0 : T_operation_writer} {a1 : (List Int)} {Post : T_operation_writer → Prop} (h : W_operation_writer_numbers a0 a1 Post) : ∃ r, R_operation_writer_numbers a0 a1 r ∧ Post r := (show GM (W_operation_writer_numbers a0 a1) (W_operation_writer_numbers a0 a1) from GM.loop (fun X Y Q s1 X1 h => ⟨fun hc => (Exists.elim ((h).1 hc) fun v4 hv4 => ⟨v4, hv4.1, (Exists.elim (hv4.2) fun v5 hv5 => ⟨v5, hv5.1, ⟨(hv5.2).1, X1 _ ((hv5.2).2)⟩⟩)⟩), fun hc => (h).2 hc⟩) (fun _ _ X1 s1 => GM.cond (GM.ex fun v4 => GM.ex fun v5 => GM.and (X1 _)) (GM.ret _))) Post h
theorem c_operation_writer_numbers (a0 : T_operation_writer) (a1 : (List Int)) (r : T_operation_writer) (h : R_operation_writer_numbers a0 a1 r) : Contract Try.prog 13 [.ref [.own 1 (List.map (eI .u8) a0.fb)], .c (.l 1 (List.map (eI .i64) (a1)))] [] [.own 1 (List.map (eI .u8) (r.fb))] := by
  refine contractR tb Try.func13 rfl (by kernel_rfl) rfl rfl (Nat.le_of_ble_eq_true rfl) rfl ?_
  intro E
  unfold R_operation_writer_numbers W_operation_writer_numbers at h
  refine aw_Q (fun Q hQ => ?_)
  refine tk fun L hL => ?_
  refine mv rfl ?_
  refine u0 (o_len_l (T := tb) rfl rfl rfl rfl) ?_
  refine u0 (opL_move_c rfl rfl) ?_
  refine rt (hL _ ?_)
  refine aw_block ?_
  refine aw_lp (fun (s1 : Int × (List Int)) => (⟨[(0, .c (.ptr pinB 0 0)), (8, .c (.p (.l 1 (List.map (eI .i64) (a1))))), (9, .c (.p (.v (.int .i64 (((a1).length : Int)))))), (10, .c (.p (.v (.int .i64 (s1.1)))))], [((65535, 3000), some (.row 1 (List.map (eI .u8) (s1.2)) true)), (pinB, some (.box ([.sl (65535, 3000) 0 (List.map (eI .u8) (s1.2)).length])))]⟩ : St)) h (Sub.nm [0, 8, 9, 10] [((65536, 1), (65535, 3000)), (pinB, pinB)] rfl (by kernel_rfl)) (fun X1 L1 hL1 s1 h => ?_)
  refine tk fun L hL => ?_
  refine u0 (opL_cmp (c := decide ((s1.1) < (((a1).length : Int)))) rfl rfl rfl rfl rfl) ?_
  refine rt (hL _ ?_)
  refine sk fun L2 hL2 => ?_
  refine cnd rfl h (fun h => ?_) fun h => ?_
  · refine aw_skip (hL2 _ ?_)
    refine sk fun L3 hL3 => ?_
    refine aw_block ?_
    refine tk fun L hL => ?_
    obtain ⟨v4, hv4, h⟩ := h
    refine u0 (o_idx_l (T := tb) hv4 rfl rfl rfl rfl rfl rfl rfl rfl) ?_
    refine u0 (opL_load_ep (T := tb) rfl rfl rfl rfl rfl) ?_
    refine asn rfl rfl ?_
    refine rt (hL _ ?_)
    refine tk fun L hL => ?_
    refine mv rfl ?_
    obtain ⟨v5, hv5, h⟩ := h
    refine ul (opL_call (c_wire_EncodeUint _ _ hv5) rfl rfl (.cons (.c (.p _)) .nil) rfl rfl rfl) ?_
    refine u0 (opL_move_t rfl rfl) ?_
    refine u0 (opL_extract_c rfl rfl rfl) ?_
    refine u0 (opL_extract_c rfl rfl rfl) ?_
    refine asn rfl rfl ?_
    refine asn rfl rfl ?_
    refine rt (hL _ ?_)
    refine tl fun L hL => ?_
    refine mv rfl ?_
    refine mv rfl ?_
    refine u0 (opL_nilCheck rfl rfl rfl) ?_
    refine u0 (opL_fieldp (T := tb) rfl rfl rfl rfl rfl rfl rfl rfl rfl) ?_
    refine u0 (opL_load_box (T := tb) rfl rfl rfl rfl rfl rfl) ?_
    refine mv rfl ?_
    obtain ⟨hm6, h⟩ := h
    refine ul (o_app_sl (T := tb) (f := (eI .u8)) (L := s1.2) (L' := v5.1) hm6 rfl rfl rfl rfl rfl rfl rfl rfl rfl rfl rfl (srcT_sl (T := tb) mem_app rfl rfl rfl rfl rfl rfl)) ?_
    refine u0 (opL_nilCheck rfl rfl rfl) ?_
    refine u0 (opL_fieldp (T := tb) rfl rfl rfl rfl rfl rfl rfl rfl rfl) ?_
    refine un (opL_st_c (T := tb) rfl rfl rfl rfl rfl rfl rfl rfl rfl rfl) ?_
    refine rt (hL _ (hL3 _ ?_))
    refine tl fun L hL => ?_
    refine u0 (opL_add rfl rfl rfl rfl rfl) ?_
    refine mv rfl ?_
    refine rt (hL _ (hL1 _ _ h (Sub.nm [0, 8, 9, 10] [((25, 0), (65535, 3000)), (pinB, pinB)] rfl (by kernel_rfl))))
  · obtain rfl := h
    refine aw_exit (hQ _ _ ⟨.inl rfl, _, _, _, _, _, _, .nil, .nil, rfl, (.cons (.own rfl rfl) .nil), rfl, rfl⟩)
def W_wire_EncodeText (a0 : ByteArray) (Q : ((List Int) × Int) → Prop) : Prop :=
 (((decide ((((a0).size : Int)) > (65536))) = true → Q (([] : (List Int)), (11))) ∧ ((decide ((((a0).size : Int)) > (65536))) = false → ∃ (v2 : (List Int) × Int), R_wire_EncodeUint (((a0).size : Int)) v2 ∧ (((v2.1).length + (sI (a0)).length) * 1 ≤ 140737488355328) ∧ Q (((v2.1) ++ (sI (a0))), (0))))
def R_wire_EncodeText (a0 : ByteArray) (r : (List Int) × Int) : Prop := W_wire_EncodeText a0 fun x => r = x
theorem e_wire_EncodeText {a0 : ByteArray} {Post : ((List Int) × Int) → Prop} (h : W_wire_EncodeText a0 Post) : ∃ r, R_wire_EncodeText a0 r ∧ Post r := (show GM (W_wire_EncodeText a0) (W_wire_EncodeText a0) from GM.cond (GM.ret _) (GM.ex fun v2 => GM.and (GM.ret _))) Post h
theorem c_wire_EncodeText (a0 : ByteArray) (r : (List Int) × Int) (h : R_wire_EncodeText a0 r) : Contract Try.prog 36 [.c (.v (.string (a0)))] [.c (.own 1 (List.map (eI .u8) (r.1))), .c (.p (.v (.int .i64 (r.2))))] [] := by
  refine contract0 tb Try.func36 rfl (by kernel_rfl) rfl rfl (Nat.le_of_ble_eq_true rfl) rfl ?_
  intro E
  unfold R_wire_EncodeText W_wire_EncodeText at h
  refine aw_Q (fun Q hQ => ?_)
  refine tk fun L hL => ?_
  refine asn rfl rfl ?_
  refine asn rfl rfl ?_
  refine rt (hL _ ?_)
  refine sk fun L1 hL1 => ?_
  refine tk fun L hL => ?_
  refine mv rfl ?_
  refine u0 (opL_len_str (T := tb) rfl rfl rfl rfl) ?_
  refine u0 (opL_cmp (c := decide ((((a0).size : Int)) > (65536))) rfl rfl rfl rfl rfl) ?_
  refine rt (hL _ ?_)
  refine cnd rfl h (fun h => ?_) fun h => ?_
  · refine tk fun L hL => ?_
    refine asn rfl rfl ?_
    refine asn rfl rfl ?_
    refine rt (hL _ ?_)
    obtain rfl := h
    exact aw_ret (hQ _ _ ⟨.inr rfl, _, _, _, (.cons (.p rfl) (.cons (.p rfl) .nil)), (.cons (.c (.nilo _ (Nat.le_of_ble_eq_true rfl))) (.cons (.c (.p _)) .nil)), rfl, rfl⟩)
  · refine aw_skip (hL1 _ ?_)
    refine tk fun L hL => ?_
    refine mv rfl ?_
    refine u0 (opL_len_str (T := tb) rfl rfl rfl rfl) ?_
    obtain ⟨v2, hv2, h⟩ := h
    refine ul (opL_call (c_wire_EncodeUint _ _ hv2) rfl rfl (.cons (.c (.p _)) .nil) rfl rfl rfl) ?_
    refine u0 (opL_move_t rfl rfl) ?_
    refine u0 (opL_extract_c rfl rfl rfl) ?_
    refine u0 (opL_extract_c rfl rfl rfl) ?_
    refine asn rfl rfl ?_
    refine asn rfl rfl ?_
    refine rt (hL _ ?_)
    refine tk fun L hL => ?_
    refine mv rfl ?_
    refine mv rfl ?_
    obtain ⟨hm3, h⟩ := h
    refine ul (o_app_sl (T := tb) (f := (eI .u8)) (L := v2.1) (L' := sI (a0)) hm3 rfl rfl rfl rfl rfl rfl rfl rfl rfl rfl rfl (srcT_str (T := tb) mem_app rfl rfl rfl rfl)) ?_
    refine asn rfl rfl ?_
    refine asn rfl rfl ?_
    refine rt (hL _ ?_)
    obtain rfl := h
    exact aw_ret (hQ _ _ ⟨.inr rfl, _, _, _, (.cons (.s rfl) (.cons (.p rfl) .nil)), (.cons (.c (.own rfl rfl)) (.cons (.c (.p _)) .nil)), rfl, rfl⟩)
def W_operation_writer_texts (a0 : T_operation_writer) (a1 : (List ByteArray)) (Q : T_operation_writer → Prop) : Prop :=
 lp (fun (X1 : Int × (List Int) → Prop) (s1 : Int × (List Int)) => (((decide ((s1.1) < (((a1).length : Int)))) = true → ∃ (v4 : ByteArray), ix (a1) (s1.1) v4 ∧ ∃ (v5 : (List Int) × Int), R_wire_EncodeText (v4) v5 ∧ (((s1.2).length + (v5.1).length) * 1 ≤ 140737488355328) ∧ X1 ((IntKind.i64.wrap ((s1.1) + (1))), ((s1.2) ++ (v5.1)))) ∧ ((decide ((s1.1) < (((a1).length : Int)))) = false → Q ((T_operation_writer.mk (s1.2)))))) ((0), (a0.fb))
def R_operation_writer_texts (a0 : T_operation_writer) (a1 : (List ByteArray)) (r : T_operation_writer) : Prop := W_operation_writer_texts a0 a1 fun x => r = x
theorem e_operation_writer_texts {a0 : T_operation_writer} {a1 : (List ByteArray)} {Post : T_operation_writer → Prop} (h : W_operation_writer_texts a0 a1 Post) : ∃ r, R_operation_writer_texts a0 a1 r ∧ Post r := (show GM (W_operation_writer_texts a0 a1) (W_operation_writer_texts a0 a1) from GM.loop (fun X Y Q s1 X1 h => ⟨fun hc => (Exists.elim ((h).1 hc) fun v4 hv4 => ⟨v4, hv4.1, (Exists.elim (hv4.2) fun v5 hv5 => ⟨v5, hv5.1, ⟨(hv5.2).1, X1 _ ((hv5.2).2)⟩⟩)⟩), fun hc => (h).2 hc⟩) (fun _ _ X1 s1 => GM.cond (GM.ex fun v4 => GM.ex fun v5 => GM.and (X1 _)) (GM.ret _))) Post h
theorem c_operation_writer_texts (a0 : T_operation_writer) (a1 : (List ByteArray)) (r : T_operation_writer) (h : R_operation_writer_texts a0 a1 r) : Contract Try.prog 14 [.ref [.own 1 (List.map (eI .u8) a0.fb)], .c (.l 1 (List.map eS (a1)))] [] [.own 1 (List.map (eI .u8) (r.fb))] := by
  refine contractR tb Try.func14 rfl (by kernel_rfl) rfl rfl (Nat.le_of_ble_eq_true rfl) rfl ?_
  intro E
  unfold R_operation_writer_texts W_operation_writer_texts at h
  refine aw_Q (fun Q hQ => ?_)
  refine tk fun L hL => ?_
  refine mv rfl ?_
  refine u0 (o_len_l (T := tb) rfl rfl rfl rfl) ?_
  refine u0 (opL_move_c rfl rfl) ?_
  refine rt (hL _ ?_)
  refine aw_block ?_
  refine aw_lp (fun (s1 : Int × (List Int)) => (⟨[(0, .c (.ptr pinB 0 0)), (8, .c (.p (.l 1 (List.map eS (a1))))), (9, .c (.p (.v (.int .i64 (((a1).length : Int)))))), (10, .c (.p (.v (.int .i64 (s1.1)))))], [((65535, 3000), some (.row 1 (List.map (eI .u8) (s1.2)) true)), (pinB, some (.box ([.sl (65535, 3000) 0 (List.map (eI .u8) (s1.2)).length])))]⟩ : St)) h (Sub.nm [0, 8, 9, 10] [((65536, 1), (65535, 3000)), (pinB, pinB)] rfl (by kernel_rfl)) (fun X1 L1 hL1 s1 h => ?_)
  refine tk fun L hL => ?_
  refine u0 (opL_cmp (c := decide ((s1.1) < (((a1).length : Int)))) rfl rfl rfl rfl rfl) ?_
  refine rt (hL _ ?_)
  refine sk fun L2 hL2 => ?_
  refine cnd rfl h (fun h => ?_) fun h => ?_
  · refine aw_skip (hL2 _ ?_)
    refine sk fun L3 hL3 => ?_
    refine aw_block ?_
    refine tk fun L hL => ?_
    obtain ⟨v4, hv4, h⟩ := h
    refine u0 (o_idx_l (T := tb) hv4 rfl rfl rfl rfl rfl rfl rfl rfl) ?_
    refine u0 (opL_load_ep (T := tb) rfl rfl rfl rfl rfl) ?_
    refine asn rfl rfl ?_
    refine rt (hL _ ?_)
    refine tk fun L hL => ?_
    refine mv rfl ?_
    obtain ⟨v5, hv5, h⟩ := h
    refine ul (opL_call (c_wire_EncodeText _ _ hv5) rfl rfl (.cons (.c (.p _)) .nil) rfl rfl rfl) ?_
    refine u0 (opL_move_t rfl rfl) ?_
    refine u0 (opL_extract_c rfl rfl rfl) ?_
    refine u0 (opL_extract_c rfl rfl rfl) ?_
    refine asn rfl rfl ?_
    refine asn rfl rfl ?_
    refine rt (hL _ ?_)
    refine tl fun L hL => ?_
    refine mv rfl ?_
    refine mv rfl ?_
    refine u0 (opL_nilCheck rfl rfl rfl) ?_
    refine u0 (opL_fieldp (T := tb) rfl rfl rfl rfl rfl rfl rfl rfl rfl) ?_
    refine u0 (opL_load_box (T := tb) rfl rfl rfl rfl rfl rfl) ?_
    refine mv rfl ?_
    obtain ⟨hm6, h⟩ := h
    refine ul (o_app_sl (T := tb) (f := (eI .u8)) (L := s1.2) (L' := v5.1) hm6 rfl rfl rfl rfl rfl rfl rfl rfl rfl rfl rfl (srcT_sl (T := tb) mem_app rfl rfl rfl rfl rfl rfl)) ?_
    refine u0 (opL_nilCheck rfl rfl rfl) ?_
    refine u0 (opL_fieldp (T := tb) rfl rfl rfl rfl rfl rfl rfl rfl rfl) ?_
    refine un (opL_st_c (T := tb) rfl rfl rfl rfl rfl rfl rfl rfl rfl rfl) ?_
    refine rt (hL _ (hL3 _ ?_))
    refine tl fun L hL => ?_
    refine u0 (opL_add rfl rfl rfl rfl rfl) ?_
    refine mv rfl ?_
    refine rt (hL _ (hL1 _ _ h (Sub.nm [0, 8, 9, 10] [((25, 0), (65535, 3000)), (pinB, pinB)] rfl (by kernel_rfl))))
  · obtain rfl := h
    refine aw_exit (hQ _ _ ⟨.inl rfl, _, _, _, _, _, _, .nil, .nil, rfl, (.cons (.own rfl rfl) .nil), rfl, rfl⟩)
def W_wire_EncodeWord (a0 : Int) (Q : ((List Int)) → Prop) : Prop :=
 jn (fun (p1 : (List Int)) => Q ((p1))) (fun (J1 : (List Int) → Prop) => lp (fun (X2 : (List Int) × Int → Prop) (s2 : (List Int) × Int) => (((decide ((s2.2) ≥ (0))) = true → ((0 : Int) ≤ (s2.2)) ∧ (((s2.1).length + ([(IntKind.u8.wrap (iShr .u64 (a0) (s2.2)))]).length) * 1 ≤ 140737488355328) ∧ X2 (((s2.1) ++ ([(IntKind.u8.wrap (iShr .u64 (a0) (s2.2)))])), (IntKind.i64.wrap ((s2.2) - (8))))) ∧ ((decide ((s2.2) ≥ (0))) = false → J1 ((s2.1))))) (([] : (List Int)), (56)))
def R_wire_EncodeWord (a0 : Int) (r : (List Int)) : Prop := W_wire_EncodeWord a0 fun x => r = x
theorem e_wire_EncodeWord {a0 : Int} {Post : ((List Int)) → Prop} (h : W_wire_EncodeWord a0 Post) : ∃ r, R_wire_EncodeWord a0 r ∧ Post r := (show GM (W_wire_EncodeWord a0) (W_wire_EncodeWord a0) from GM.join (fun p1 => GM.ret _) (fun _ _ J1 => GM.loop (fun X Y Q s2 X2 h => ⟨fun hc => ⟨((h).1 hc).1, ⟨(((h).1 hc).2).1, X2 _ ((((h).1 hc).2).2)⟩⟩, fun hc => (h).2 hc⟩) (fun _ _ X2 s2 => GM.cond (GM.and (GM.and (X2 _))) (J1 _)))) Post h
theorem c_wire_EncodeWord (a0 : Int) (r : (List Int)) (h : R_wire_EncodeWord a0 r) : Contract Try.prog 15 [.c (.v (.int .u64 (a0)))] [.c (.own 1 (List.map (eI .u8) (r)))] [] := by
  refine contract0 tb Try.func15 rfl (by kernel_rfl) rfl rfl (Nat.le_of_ble_eq_true rfl) rfl ?_
  intro E
  unfold R_wire_EncodeWord W_wire_EncodeWord at h
  refine aw_Q (fun Q hQ => ?_)
  refine tk fun L hL => ?_
  refine asn rfl rfl ?_
  refine rt (hL _ ?_)
  refine tk fun L hL => ?_
  refine asn rfl rfl ?_
  refine rt (hL _ ?_)
  refine aw_jn (fun (p1 : (List Int)) => (⟨[(3, .c (.sl (3, 1000) 0 (List.map (eI .u8) (p1)).length))], [((3, 1000), some (.row 1 (List.map (eI .u8) (p1)) true))]⟩ : St)) h (fun p1 h => ?_) (fun J1 L1 hL1 h => ?_)
  · refine tk fun L hL => ?_
    refine mv rfl ?_
    refine asn rfl rfl ?_
    refine rt (hL _ ?_)
    obtain rfl := h
    exact aw_ret (hQ _ _ ⟨.inr rfl, _, _, _, (.cons (.s rfl) .nil), (.cons (.c (.own rfl rfl)) .nil), rfl, rfl⟩)
  · refine tk fun L hL => ?_
    refine asn rfl rfl ?_
    refine rt (hL _ ?_)
    refine aw_block ?_
    refine aw_lp (fun (s2 : (List Int) × Int) => (⟨[(0, .c (.p (.v (.int .u64 (a0))))), (3, .c (.sl (3, 1000) 0 (List.map (eI .u8) (s2.1)).length)), (4, .c (.p (.v (.int .i64 (s2.2)))))], [((3, 1000), some (.row 1 (List.map (eI .u8) (s2.1)) true))]⟩ : St)) h ((Sub.blk (3, 1050) 1 rfl rfl rfl).trans ((Sub.slot 3 rfl (.nilo (b := (3, 1050)) rfl)).trans (Sub.nm [0, 3, 4] [((3, 1050), (3, 1000))] rfl (by kernel_rfl)))) (fun X2 L2 hL2 s2 h => ?_)
    refine sk fun L3 hL3 => ?_
    refine tk fun L hL => ?_
    refine mv rfl ?_
    refine u0 (opL_cmp (c := decide ((s2.2) ≥ (0))) rfl rfl rfl rfl rfl) ?_
    refine rt (hL _ ?_)
    refine cnd rfl h (fun h => ?_) fun h => ?_
    · refine aw_skip (hL3 _ ?_)
      refine sk fun L4 hL4 => ?_
      refine aw_block ?_
      refine tl fun L hL => ?_
      refine mv rfl ?_
      refine mv rfl ?_
      refine mv rfl ?_
      obtain ⟨hz5, h⟩ := h
      refine u0 (o_shr hz5 rfl rfl rfl rfl) ?_
      refine u0 (opL_conv (T := tb) rfl rfl rfl rfl rfl rfl) ?_
      refine ul (opL_build_sl (T := tb) (rows := List.map (eI .u8) [(IntKind.u8.wrap (iShr .u64 (a0) (s2.2)))]) rfl rfl rfl rfl rfl rfl rfl rfl rfl rfl rfl rfl rfl) ?_
      obtain ⟨hm6, h⟩ := h
      refine ul (o_app_sl (T := tb) (f := (eI .u8)) (L := s2.1) (L' := [(IntKind.u8.wrap (iShr .u64 (a0) (s2.2)))]) hm6 rfl rfl rfl rfl rfl rfl rfl rfl rfl rfl rfl (srcT_sl (T := tb) mem_app rfl rfl rfl rfl rfl rfl)) ?_
      refine asn rfl rfl ?_
      refine rt (hL _ (hL4 _ ?_))
      refine tl fun L hL => ?_
      refine mv rfl ?_
      refine u0 (opL_sub rfl rfl rfl rfl rfl) ?_
      refine asn rfl rfl ?_
      refine rt (hL _ (hL2 _ _ h (Sub.nm [0, 3, 4] [((15, 0), (3, 1000))] rfl (by kernel_rfl))))
    · refine aw_exit (hL1 _ _ h (Sub.nm [3] [((3, 1000), (3, 1000))] rfl (by kernel_rfl)))
def W_wire_Checksum (a0 : (List Int)) (Q : Int → Prop) : Prop :=
 jn (fun (p1 : Int × Int) => Q ((IntKind.u32.wrap ((iShl .u32 (p1.2) (16)) + (p1.1))))) (fun (J1 : Int × Int → Prop) => lp (fun (X2 : Int × Int × Int → Prop) (s2 : Int × Int × Int) => (((decide ((s2.2.2) < (((a0).length : Int)))) = true → ∃ (v5 : Int), ix (a0) (s2.2.2) v5 ∧ X2 (((IntKind.u32.wrap ((s2.1) + (IntKind.u32.wrap (v5)))).tmod (65521)), ((IntKind.u32.wrap ((s2.2.1) + ((IntKind.u32.wrap ((s2.1) + (IntKind.u32.wrap (v5)))).tmod (65521)))).tmod (65521)), (IntKind.i64.wrap ((s2.2.2) + (1))))) ∧ ((decide ((s2.2.2) < (((a0).length : Int)))) = false → J1 ((s2.1), (s2.2.1))))) ((1), (0), (0)))
def R_wire_Checksum (a0 : (List Int)) (r : Int) : Prop := W_wire_Checksum a0 fun x => r = x
theorem e_wire_Checksum {a0 : (List Int)} {Post : Int → Prop} (h : W_wire_Checksum a0 Post) : ∃ r, R_wire_Checksum a0 r ∧ Post r := (show GM (W_wire_Checksum a0) (W_wire_Checksum a0) from GM.join (fun p1 => GM.ret _) (fun _ _ J1 => GM.loop (fun X Y Q s2 X2 h => ⟨fun hc => (Exists.elim ((h).1 hc) fun v5 hv5 => ⟨v5, hv5.1, X2 _ (hv5.2)⟩), fun hc => (h).2 hc⟩) (fun _ _ X2 s2 => GM.cond (GM.ex fun v5 => X2 _) (J1 _)))) Post h
theorem c_wire_Checksum (a0 : (List Int)) (r : Int) (h : R_wire_Checksum a0 r) : Contract Try.prog 37 [.c (.l 1 (List.map (eI .u8) (a0)))] [.c (.p (.v (.int .u32 (r))))] [] := by
  refine contract0 tb Try.func37 rfl (by kernel_rfl) rfl rfl (Nat.le_of_ble_eq_true rfl) rfl ?_
  intro E
  unfold R_wire_Checksum W_wire_Checksum at h
  refine aw_Q (fun Q hQ => ?_)
  refine tk fun L hL => ?_
  refine asn rfl rfl ?_
  refine rt (hL _ ?_)
  refine tk fun L hL => ?_
  refine asn rfl rfl ?_
  refine asn rfl rfl ?_
  refine rt (hL _ ?_)
  refine aw_jn (fun (p1 : Int × Int) => (⟨[(3, .c (.p (.v (.int .u32 (p1.1))))), (4, .c (.p (.v (.int .u32 (p1.2)))))], []⟩ : St)) h (fun p1 h => ?_) (fun J1 L1 hL1 h => ?_)
  · refine tk fun L hL => ?_
    refine mv rfl ?_
    refine u0 (o_shl (by decide) rfl rfl rfl rfl) ?_
    refine mv rfl ?_
    refine u0 (opL_add rfl rfl rfl rfl rfl) ?_
    refine asn rfl rfl ?_
    refine rt (hL _ ?_)
    obtain rfl := h
    exact aw_ret (hQ _ _ ⟨.inr rfl, _, _, _, (.cons (.p rfl) .nil), (.cons (.c (.p _)) .nil), rfl, rfl⟩)
  · refine tk fun L hL => ?_
    refine mv rfl ?_
    refine u0 (o_len_l (T := tb) rfl rfl rfl rfl) ?_
    refine u0 (opL_move_c rfl rfl) ?_
    refine rt (hL _ ?_)
    refine aw_block ?_
    refine aw_lp (fun (s2 : Int × Int × Int) => (⟨[(3, .c (.p (.v (.int .u32 (s2.1))))), (4, .c (.p (.v (.int .u32 (s2.2.1))))), (7, .c (.p (.l 1 (List.map (eI .u8) (a0))))), (8, .c (.p (.v (.int .i64 (((a0).length : Int)))))), (9, .c (.p (.v (.int .i64 (s2.2.2)))))], []⟩ : St)) h (Sub.nm [3, 4, 7, 8, 9] [] rfl (by kernel_rfl)) (fun X2 L2 hL2 s2 h => ?_)
    refine tk fun L hL => ?_
    refine u0 (opL_cmp (c := decide ((s2.2.2) < (((a0).length : Int)))) rfl rfl rfl rfl rfl) ?_
    refine rt (hL _ ?_)
    refine sk fun L3 hL3 => ?_
    refine cnd rfl h (fun h => ?_) fun h => ?_
    · refine aw_skip (hL3 _ ?_)
      refine sk fun L4 hL4 => ?_
      refine aw_block ?_
      refine tk fun L hL => ?_
      obtain ⟨v5, hv5, h⟩ := h
      refine u0 (o_idx_l (T := tb) hv5 rfl rfl rfl rfl rfl rfl rfl rfl) ?_
      refine u0 (opL_load_ep (T := tb) rfl rfl rfl rfl rfl) ?_
      refine asn rfl rfl ?_
      refine rt (hL _ ?_)
      refine tk fun L hL => ?_
      refine mv rfl ?_
      refine mv rfl ?_
      refine u0 (opL_conv (T := tb) rfl rfl rfl rfl rfl rfl) ?_
      refine u0 (opL_add rfl rfl rfl rfl rfl) ?_
      refine u0 (o_rem (by decide) rfl rfl rfl rfl) ?_
      refine asn rfl rfl ?_
      refine rt (hL _ ?_)
      refine tl fun L hL => ?_
      refine mv rfl ?_
      refine mv rfl ?_
      refine u0 (opL_add rfl rfl rfl rfl rfl) ?_
      refine u0 (o_rem (by decide) rfl rfl rfl rfl) ?_
      refine asn rfl rfl ?_
      refine rt (hL _ (hL4 _ ?_))
      refine tl fun L hL => ?_
      refine u0 (opL_add rfl rfl rfl rfl rfl) ?_
      refine mv rfl ?_
      refine rt (hL _ (hL2 _ _ h (Sub.nm [3, 4, 7, 8, 9] [] rfl (by kernel_rfl))))
    · refine aw_exit (hL1 _ _ h (Sub.nm [3, 4] [] rfl (by kernel_rfl)))
def W_wire_Frame (a0 : Int) (a1 : (List Int)) (Q : ((List Int) × Int) → Prop) : Prop :=
 (((decide ((((a1).length : Int)) > (1048576))) = true → Q (([] : (List Int)), (11))) ∧ ((decide ((((a1).length : Int)) > (1048576))) = false → ∃ (v2 : (List Int) × Int), R_wire_EncodeUint (((a1).length : Int)) v2 ∧ ((([(a0)]).length + (v2.1).length) * 1 ≤ 140737488355328) ∧ (((([(a0)]) ++ (v2.1)).length + (a1).length) * 1 ≤ 140737488355328) ∧ ∃ (v5 : Int), R_wire_Checksum ((([(a0)]) ++ (v2.1)) ++ (a1)) v5 ∧ ((((([(a0)]) ++ (v2.1)) ++ (a1)).length + ([(IntKind.u8.wrap (iShr .u32 (v5) (24))), (IntKind.u8.wrap (iShr .u32 (v5) (16))), (IntKind.u8.wrap (iShr .u32 (v5) (8))), (IntKind.u8.wrap (v5))]).length) * 1 ≤ 140737488355328) ∧ Q ((((([(a0)]) ++ (v2.1)) ++ (a1)) ++ ([(IntKind.u8.wrap (iShr .u32 (v5) (24))), (IntKind.u8.wrap (iShr .u32 (v5) (16))), (IntKind.u8.wrap (iShr .u32 (v5) (8))), (IntKind.u8.wrap (v5))])), (0))))
def R_wire_Frame (a0 : Int) (a1 : (List Int)) (r : (List Int) × Int) : Prop := W_wire_Frame a0 a1 fun x => r = x
theorem e_wire_Frame {a0 : Int} {a1 : (List Int)} {Post : ((List Int) × Int) → Prop} (h : W_wire_Frame a0 a1 Post) : ∃ r, R_wire_Frame a0 a1 r ∧ Post r := (show GM (W_wire_Frame a0 a1) (W_wire_Frame a0 a1) from GM.cond (GM.ret _) (GM.ex fun v2 => GM.and (GM.and (GM.ex fun v5 => GM.and (GM.ret _))))) Post h
theorem c_wire_Frame (a0 : Int) (a1 : (List Int)) (r : (List Int) × Int) (h : R_wire_Frame a0 a1 r) : Contract Try.prog 16 [.c (.v (.int .u8 (a0))), .c (.l 1 (List.map (eI .u8) (a1)))] [.c (.own 1 (List.map (eI .u8) (r.1))), .c (.p (.v (.int .i64 (r.2))))] [] := by
  refine contract0 tb Try.func16 rfl (by kernel_rfl) rfl rfl (Nat.le_of_ble_eq_true rfl) rfl ?_
  intro E
  unfold R_wire_Frame W_wire_Frame at h
  refine aw_Q (fun Q hQ => ?_)
  refine tk fun L hL => ?_
  refine asn rfl rfl ?_
  refine asn rfl rfl ?_
  refine rt (hL _ ?_)
  refine sk fun L1 hL1 => ?_
  refine tk fun L hL => ?_
  refine mv rfl ?_
  refine u0 (o_len_l (T := tb) rfl rfl rfl rfl) ?_
  refine u0 (opL_cmp (c := decide ((((a1).length : Int)) > (1048576))) rfl rfl rfl rfl rfl) ?_
  refine rt (hL _ ?_)
  refine cnd rfl h (fun h => ?_) fun h => ?_
  · refine tk fun L hL => ?_
    refine asn rfl rfl ?_
    refine asn rfl rfl ?_
    refine rt (hL _ ?_)
    obtain rfl := h
    exact aw_ret (hQ _ _ ⟨.inr rfl, _, _, _, (.cons (.p rfl) (.cons (.p rfl) .nil)), (.cons (.c (.nilo _ (Nat.le_of_ble_eq_true rfl))) (.cons (.c (.p _)) .nil)), rfl, rfl⟩)
  · refine aw_skip (hL1 _ ?_)
    refine tk fun L hL => ?_
    refine mv rfl ?_
    refine u0 (o_len_l (T := tb) rfl rfl rfl rfl) ?_
    obtain ⟨v2, hv2, h⟩ := h
    refine ul (opL_call (c_wire_EncodeUint _ _ hv2) rfl rfl (.cons (.c (.p _)) .nil) rfl rfl rfl) ?_
    refine u0 (opL_move_t rfl rfl) ?_
    refine u0 (opL_extract_c rfl rfl rfl) ?_
    refine u0 (opL_extract_c rfl rfl rfl) ?_
    refine asn rfl rfl ?_
    refine asn rfl rfl ?_
    refine rt (hL _ ?_)
    refine tk fun L hL => ?_
    refine mv rfl ?_
    refine ul (opL_build_sl (T := tb) (rows := List.map (eI .u8) [(a0)]) rfl rfl rfl rfl rfl rfl rfl rfl rfl rfl rfl rfl rfl) ?_
    refine mv rfl ?_
    obtain ⟨hm3, h⟩ := h
    refine ul (o_app_sl (T := tb) (f := (eI .u8)) (L := [(a0)]) (L' := v2.1) hm3 rfl rfl rfl rfl rfl rfl rfl rfl rfl rfl rfl (srcT_sl (T := tb) mem_app rfl rfl rfl rfl rfl rfl)) ?_
    refine asn rfl rfl ?_
    refine rt (hL _ ?_)
    refine tk fun L hL => ?_
    refine mv rfl ?_
    refine mv rfl ?_
    obtain ⟨hm4, h⟩ := h
    refine ul (o_app_sl (T := tb) (f := (eI .u8)) (L := ([(a0)]) ++ (v2.1)) (L' := a1) hm4 rfl rfl rfl rfl rfl rfl rfl rfl rfl rfl rfl (srcT_l (T := tb) mem_app rfl rfl rfl rfl rfl)) ?_
    refine asn rfl rfl ?_
    refine rt (hL _ ?_)
    refine tk fun L hL => ?_
    refine mv rfl ?_
    obtain ⟨v5, hv5, h⟩ := h
    refine ul (opL_callk (c_wire_Checksum _ _ hv5) (noLl (NoLl.cons (.p rfl) NoLl.nil)) rfl rfl (.cons (.c (.fr rfl (dt_alln rfl))) .nil) rfl rfl rfl) ?_
    refine asn rfl rfl ?_
    refine rt (hL _ ?_)
    refine aw_sub (st' := ⟨[(8, .c (.sl (25, 0) 0 (List.map (eI .u8) ((([(a0)]) ++ (v2.1)) ++ (a1))).length)), (9, .c (.p (.v (.int .u32 (v5)))))], [((25, 0), some (.row 1 (List.map (eI .u8) ((([(a0)]) ++ (v2.1)) ++ (a1))) true))]⟩) (Sub.nm [8, 9] [((25, 0), (25, 0))] rfl rfl) ?_
    refine tk fun L hL => ?_
    refine mv rfl ?_
    refine mv rfl ?_
    refine u0 (o_shr (by decide) rfl rfl rfl rfl) ?_
    refine u0 (opL_conv (T := tb) rfl rfl rfl rfl rfl rfl) ?_
    refine mv rfl ?_
    refine u0 (o_shr (by decide) rfl rfl rfl rfl) ?_
    refine u0 (opL_conv (T := tb) rfl rfl rfl rfl rfl rfl) ?_
    refine mv rfl ?_
    refine u0 (o_shr (by decide) rfl rfl rfl rfl) ?_
    refine u0 (opL_conv (T := tb) rfl rfl rfl rfl rfl rfl) ?_
    refine mv rfl ?_
    refine u0 (opL_conv (T := tb) rfl rfl rfl rfl rfl rfl) ?_
    refine ul (opL_build_sl (T := tb) (rows := List.map (eI .u8) [(IntKind.u8.wrap (iShr .u32 (v5) (24))), (IntKind.u8.wrap (iShr .u32 (v5) (16))), (IntKind.u8.wrap (iShr .u32 (v5) (8))), (IntKind.u8.wrap (v5))]) rfl rfl rfl rfl rfl rfl rfl rfl rfl rfl rfl rfl rfl) ?_
    obtain ⟨hm6, h⟩ := h
    refine ul (o_app_sl (T := tb) (f := (eI .u8)) (L := (([(a0)]) ++ (v2.1)) ++ (a1)) (L' := [(IntKind.u8.wrap (iShr .u32 (v5) (24))), (IntKind.u8.wrap (iShr .u32 (v5) (16))), (IntKind.u8.wrap (iShr .u32 (v5) (8))), (IntKind.u8.wrap (v5))]) hm6 rfl rfl rfl rfl rfl rfl rfl rfl rfl rfl rfl (srcT_sl (T := tb) mem_app rfl rfl rfl rfl rfl rfl)) ?_
    refine asn rfl rfl ?_
    refine asn rfl rfl ?_
    refine rt (hL _ ?_)
    obtain rfl := h
    exact aw_ret (hQ _ _ ⟨.inr rfl, _, _, _, (.cons (.s rfl) (.cons (.p rfl) .nil)), (.cons (.c (.own rfl rfl)) (.cons (.c (.p _)) .nil)), rfl, rfl⟩)
def W_operation_Encode (a0 : T_api_Op) (Q : ((List Int) × Int) → Prop) : Prop :=
 ∃ (v2 : Int), R_operation_Validate a0 v2 ∧ (((((v2) != (0))) = true → Q (([] : (List Int)), (v2))) ∧ ((((v2) != (0))) = false → ∃ (v3 : T_operation_writer), R_operation_writer_numbers (T_operation_writer.mk ([] : (List Int))) ([(a0.fKind)]) v3 ∧ ∃ (v4 : T_operation_writer), R_operation_writer_texts (T_operation_writer.mk (v3.fb)) ([(a0.fName), (a0.fOther)]) v4 ∧ ∃ (v5 : T_operation_writer), R_operation_writer_numbers (T_operation_writer.mk (v4.fb)) ([(((a0.fNames).length : Int))]) v5 ∧ ∃ (v6 : T_operation_writer), R_operation_writer_texts (T_operation_writer.mk (v5.fb)) (a0.fNames) v6 ∧ ∃ (v7 : T_operation_writer), R_operation_writer_numbers (T_operation_writer.mk (v6.fb)) ([(a0.fParams.fKind), (a0.fParams.fSize), (a0.fParams.fDepth)]) v7 ∧ ∃ (v8 : (List Int)), R_wire_EncodeWord (a0.fParams.fSeed) v8 ∧ (((v7.fb).length + (v8).length) * 1 ≤ 140737488355328) ∧ ∃ (v10 : T_operation_writer), R_operation_writer_numbers (T_operation_writer.mk ((v7.fb) ++ (v8))) ([(((a0.fItems).length : Int))]) v10 ∧ jn (fun (p11 : (List Int)) => ∃ (v18 : T_operation_writer), R_operation_writer_texts (T_operation_writer.mk (p11)) ([(strOfNums (a0.fCoins))]) v18 ∧ ∃ (v19 : T_operation_writer), R_operation_writer_numbers (T_operation_writer.mk (v18.fb)) ([(a0.fExpected), (a0.fSource), (a0.fHandle), (a0.fIndex), (a0.fCursor), (a0.fCount), (a0.fQuery.fKind)]) v19 ∧ ∃ (v20 : T_operation_writer), R_operation_writer_texts (T_operation_writer.mk (v19.fb)) ([(a0.fQuery.fKey)]) v20 ∧ ∃ (v21 : T_operation_writer), R_operation_writer_numbers (T_operation_writer.mk (v20.fb)) ([(a0.fQuery.fCount), (a0.fQuery.fNum), (a0.fQuery.fDen)]) v21 ∧ ∃ (v22 : T_operation_writer), R_operation_writer_texts (T_operation_writer.mk (v21.fb)) ([(strOfNums (a0.fData))]) v22 ∧ ∃ (v23 : (List Int) × Int), R_wire_Frame (79) (v22.fb) v23 ∧ Q ((v23.1), (v23.2))) (fun (J11 : (List Int) → Prop) => lp (fun (X12 : Int × (List Int) → Prop) (s12 : Int × (List Int)) => (((decide ((s12.1) < (((a0.fItems).length : Int)))) = true → ∃ (v15 : T_api_Item), ix (a0.fItems) (s12.1) v15 ∧ ∃ (v16 : T_operation_writer), R_operation_writer_texts (T_operation_writer.mk (s12.2)) ([(v15.fKey)]) v16 ∧ ∃ (v17 : T_operation_writer), R_operation_writer_numbers (T_operation_writer.mk (v16.fb)) ([(v15.fWeight)]) v17 ∧ X12 ((IntKind.i64.wrap ((s12.1) + (1))), (v17.fb))) ∧ ((decide ((s12.1) < (((a0.fItems).length : Int)))) = false → J11 ((s12.2))))) ((0), (v10.fb)))))
def R_operation_Encode (a0 : T_api_Op) (r : (List Int) × Int) : Prop := W_operation_Encode a0 fun x => r = x
theorem e_operation_Encode {a0 : T_api_Op} {Post : ((List Int) × Int) → Prop} (h : W_operation_Encode a0 Post) : ∃ r, R_operation_Encode a0 r ∧ Post r := (show GM (W_operation_Encode a0) (W_operation_Encode a0) from GM.ex fun v2 => GM.cond (GM.ret _) (GM.ex fun v3 => GM.ex fun v4 => GM.ex fun v5 => GM.ex fun v6 => GM.ex fun v7 => GM.ex fun v8 => GM.and (GM.ex fun v10 => GM.join (fun p11 => GM.ex fun v18 => GM.ex fun v19 => GM.ex fun v20 => GM.ex fun v21 => GM.ex fun v22 => GM.ex fun v23 => GM.ret _) (fun _ _ J11 => GM.loop (fun X Y Q s12 X12 h => ⟨fun hc => (Exists.elim ((h).1 hc) fun v15 hv15 => ⟨v15, hv15.1, (Exists.elim (hv15.2) fun v16 hv16 => ⟨v16, hv16.1, (Exists.elim (hv16.2) fun v17 hv17 => ⟨v17, hv17.1, X12 _ (hv17.2)⟩)⟩)⟩), fun hc => (h).2 hc⟩) (fun _ _ X12 s12 => GM.cond (GM.ex fun v15 => GM.ex fun v16 => GM.ex fun v17 => X12 _) (J11 _)))))) Post h
theorem c_operation_Encode (a0 : T_api_Op) (r : (List Int) × Int) (h : R_operation_Encode a0 r) : Contract Try.prog 6 [.agg (e_api_Op a0)] [.c (.own 1 (List.map (eI .u8) (r.1))), .c (.p (.v (.int .i64 (r.2))))] [] := by
  refine contract0 tb Try.func6 rfl (by kernel_rfl) rfl rfl (Nat.le_of_ble_eq_true rfl) rfl ?_
  intro E
  unfold R_operation_Encode W_operation_Encode at h
  refine aw_Q (fun Q hQ => ?_)
  refine tk fun L hL => ?_
  refine u1 (opL_box_a rfl rfl) ?_
  refine asn rfl rfl ?_
  refine asn rfl rfl ?_
  refine rt (hL _ ?_)
  refine sk fun L1 hL1 => ?_
  refine tk fun L hL => ?_
  refine u0 (opL_loads_box (T := tb) rfl rfl rfl rfl rfl rfl rfl) ?_
  obtain ⟨v2, hv2, h⟩ := h
  refine u0 (opL_call0 (c_operation_Validate _ _ hv2) rfl rfl (.cons (.agg (.cons (.p _) (.cons (.p _) (.cons (.p _) (.cons (.p _) (.cons (.p _) (.cons (.p _) (.cons (.p _) (.cons (.p _) (.cons (.p _) (.cons (.p _) (.cons (.p _) (.cons (.p _) (.cons (.p _) (.cons (.p _) (.cons (.p _) (.cons (.p _) (.cons (.p _) (.cons (.p _) (.cons (.p _) (.cons (.p _) (.cons (.p _) (.cons (.p _) .nil))))))))))))))))))))))) .nil) rfl rfl rfl) ?_
  refine asn rfl rfl ?_
  refine rt (hL _ ?_)
  refine tk fun L hL => ?_
  refine mv rfl ?_
  refine u0 (opL_cmp (c := ((v2) != (0))) rfl rfl rfl rfl rfl) ?_
  refine rt (hL _ ?_)
  refine cnd rfl h (fun h => ?_) fun h => ?_
  · refine tk fun L hL => ?_
    refine mv rfl ?_
    refine asn rfl rfl ?_
    refine asn rfl rfl ?_
    refine rt (hL _ ?_)
    obtain rfl := h
    exact aw_ret (hQ _ _ ⟨.inr rfl, _, _, _, (.cons (.p rfl) (.cons (.p rfl) .nil)), (.cons (.c (.nilo _ (Nat.le_of_ble_eq_true rfl))) (.cons (.c (.p _)) .nil)), rfl, rfl⟩)
  · refine aw_skip (hL1 _ ?_)
    refine tk fun L hL => ?_
    refine u0 (opL_build_s (T := tb) rfl rfl rfl rfl rfl rfl rfl) ?_
    refine u1 (opL_box_a rfl rfl) ?_
    refine asn rfl rfl ?_
    refine rt (hL _ ?_)
    refine tk fun L hL => ?_
    refine mv rfl ?_
    refine u0 (opL_fieldp (T := tb) rfl rfl rfl rfl rfl rfl rfl rfl rfl) ?_
    refine u0 (opL_load_box (T := tb) rfl rfl rfl rfl rfl rfl) ?_
    refine ul (opL_build_sl (T := tb) (rows := List.map (eI .i64) [(a0.fKind)]) rfl rfl rfl rfl rfl rfl rfl rfl rfl rfl rfl rfl rfl) ?_
    obtain ⟨v3, hv3, h⟩ := h
    refine ul (opL_callr (c_operation_writer_numbers _ _ _ hv3) rfl rfl rfl rfl rfl (.cons (.nilo _ (Nat.le_of_ble_eq_true rfl)) .nil) (.cons (.c (.fr rfl (dt_alln rfl))) .nil) rfl rfl rfl rfl rfl) ?_
    refine rt (hL _ ?_)
    refine tk fun L hL => ?_
    refine mv rfl ?_
    refine u0 (opL_fieldp (T := tb) rfl rfl rfl rfl rfl rfl rfl rfl rfl) ?_
    refine u0 (opL_load_box (T := tb) rfl rfl rfl rfl rfl rfl) ?_
    refine u0 (opL_fieldp (T := tb) rfl rfl rfl rfl rfl rfl rfl rfl rfl) ?_
    refine u0 (opL_load_box (T := tb) rfl rfl rfl rfl rfl rfl) ?_
    refine ul (opL_build_sl (T := tb) (rows := List.map eS [(a0.fName), (a0.fOther)]) rfl rfl rfl rfl rfl rfl rfl rfl rfl rfl rfl rfl rfl) ?_
    obtain ⟨v4, hv4, h⟩ := h
    refine ul (opL_callr (c_operation_writer_texts _ _ _ hv4) rfl rfl rfl rfl rfl (.cons (.own rfl rfl) .nil) (.cons (.c (.fr rfl (dt_alln rfl))) .nil) rfl rfl rfl rfl rfl) ?_
    refine rt (hL _ ?_)
    refine tk fun L hL => ?_
    refine mv rfl ?_
    refine u0 (opL_fieldp (T := tb) rfl rfl rfl rfl rfl rfl rfl rfl rfl) ?_
    refine u0 (opL_load_box (T := tb) rfl rfl rfl rfl rfl rfl) ?_
    refine u0 (o_len_l (T := tb) rfl rfl rfl rfl) ?_
    refine ul (opL_build_sl (T := tb) (rows := List.map (eI .i64) [(((a0.fNames).length : Int))]) rfl rfl rfl rfl rfl rfl rfl rfl rfl rfl rfl rfl rfl) ?_
    obtain ⟨v5, hv5, h⟩ := h
    refine ul (opL_callr (c_operation_writer_numbers _ _ _ hv5) rfl rfl rfl rfl rfl (.cons (.own rfl rfl) .nil) (.cons (.c (.fr rfl (dt_alln rfl))) .nil) rfl rfl rfl rfl rfl) ?_
    refine rt (hL _ ?_)
    refine aw_sub (st' := ⟨[(1, .c (.ptr (1, 0) 0 0)), (5, .c (.ptr (14, 0) 0 0))], [((1, 0), some (.box (List.map CV.p (e_api_Op a0)))), ((14, 0), some (.box ([.sl (32, 0) 0 (List.map (eI .u8) (v5.fb)).length]))), ((32, 0), some (.row 1 (List.map (eI .u8) (v5.fb)) true))]⟩) (Sub.nm [1, 5] [((1, 0), (1, 0)), ((14, 0), (14, 0)), ((32, 0), (32, 0))] rfl rfl) ?_
    refine tk fun L hL => ?_
    refine mv rfl ?_
    refine u0 (opL_fieldp (T := tb) rfl rfl rfl rfl rfl rfl rfl rfl rfl) ?_
    refine u0 (opL_load_box (T := tb) rfl rfl rfl rfl rfl rfl) ?_
    obtain ⟨v6, hv6, h⟩ := h
    refine ul (opL_callr (c_operation_writer_texts _ _ _ hv6) rfl rfl rfl rfl rfl (.cons (.own rfl rfl) .nil) (.cons (.c (.p _)) .nil) rfl rfl rfl rfl rfl) ?_
    refine rt (hL _ ?_)
    refine tk fun L hL => ?_
    refine mv rfl ?_
    refine u0 (opL_fieldp (T := tb) rfl rfl rfl rfl rfl rfl rfl rfl rfl) ?_
    refine u0 (opL_fieldp (T := tb) rfl rfl rfl rfl rfl rfl rfl rfl rfl) ?_
    refine u0 (opL_load_box (T := tb) rfl rfl rfl rfl rfl rfl) ?_
    refine u0 (opL_fieldp (T := tb) rfl rfl rfl rfl rfl rfl rfl rfl rfl) ?_
    refine u0 (opL_fieldp (T := tb) rfl rfl rfl rfl rfl rfl rfl rfl rfl) ?_
    refine u0 (opL_load_box (T := tb) rfl rfl rfl rfl rfl rfl) ?_
    refine u0 (opL_fieldp (T := tb) rfl rfl rfl rfl rfl rfl rfl rfl rfl) ?_
    refine u0 (opL_fieldp (T := tb) rfl rfl rfl rfl rfl rfl rfl rfl rfl) ?_
    refine u0 (opL_load_box (T := tb) rfl rfl rfl rfl rfl rfl) ?_
    refine ul (opL_build_sl (T := tb) (rows := List.map (eI .i64) [(a0.fParams.fKind), (a0.fParams.fSize), (a0.fParams.fDepth)]) rfl rfl rfl rfl rfl rfl rfl rfl rfl rfl rfl rfl rfl) ?_
    obtain ⟨v7, hv7, h⟩ := h
    refine ul (opL_callr (c_operation_writer_numbers _ _ _ hv7) rfl rfl rfl rfl rfl (.cons (.own rfl rfl) .nil) (.cons (.c (.fr rfl (dt_alln rfl))) .nil) rfl rfl rfl rfl rfl) ?_
    refine rt (hL _ ?_)
    refine dk mixed (fun L hL => ?_)
    refine mv rfl ?_
    refine mv rfl ?_
    refine u0 (opL_nilCheck rfl rfl rfl) ?_
    refine u0 (opL_fieldp (T := tb) rfl rfl rfl rfl rfl rfl rfl rfl rfl) ?_
    refine u0 (opL_load_box (T := tb) rfl rfl rfl rfl rfl rfl) ?_
    refine u0 (opL_fieldp (T := tb) rfl rfl rfl rfl rfl rfl rfl rfl rfl) ?_
    refine u0 (opL_fieldp (T := tb) rfl rfl rfl rfl rfl rfl rfl rfl rfl) ?_
    refine u0 (opL_load_box (T := tb) rfl rfl rfl rfl rfl rfl) ?_
    obtain ⟨v8, hv8, h⟩ := h
    refine ul (opL_call (c_wire_EncodeWord _ _ hv8) rfl rfl (.cons (.c (.p _)) .nil) rfl rfl rfl) ?_
    obtain ⟨hm9, h⟩ := h
    refine ul (o_app_sl (T := tb) (f := (eI .u8)) (L := v7.fb) (L' := v8) hm9 rfl rfl rfl rfl rfl rfl rfl rfl rfl rfl rfl (srcT_sl (T := tb) mem_app rfl rfl rfl rfl rfl rfl)) ?_
    refine u0 (opL_nilCheck rfl rfl rfl) ?_
    refine u0 (opL_fieldp (T := tb) rfl rfl rfl rfl rfl rfl rfl rfl rfl) ?_
    refine un (opL_st_c (T := tb) rfl rfl rfl rfl rfl rfl rfl rfl rfl rfl) ?_
    refine rd (hL _ ?_)
    refine aw_sub (st' := ⟨[(1, .c (.ptr (1, 0) 0 0)), (5, .c (.ptr (14, 0) 0 0))], [((1, 0), some (.box (List.map CV.p (e_api_Op a0)))), ((14, 0), some (.box ([.sl (58, 0) 0 (List.map (eI .u8) ((v7.fb) ++ (v8))).length]))), ((58, 0), some (.row 1 (List.map (eI .u8) ((v7.fb) ++ (v8))) true))]⟩) (Sub.nm [1, 5] [((1, 0), (1, 0)), ((14, 0), (14, 0)), ((58, 0), (58, 0))] rfl rfl) ?_
    refine tk fun L hL => ?_
    refine mv rfl ?_
    refine u0 (opL_fieldp (T := tb) rfl rfl rfl rfl rfl rfl rfl rfl rfl) ?_
    refine u0 (opL_load_box (T := tb) rfl rfl rfl rfl rfl rfl) ?_
    refine u0 (o_len_l (T := tb) rfl rfl rfl rfl) ?_
    refine ul (opL_build_sl (T := tb) (rows := List.map (eI .i64) [(((a0.fItems).length : Int))]) rfl rfl rfl rfl rfl rfl rfl rfl rfl rfl rfl rfl rfl) ?_
    obtain ⟨v10, hv10, h⟩ := h
    refine ul (opL_callr (c_operation_writer_numbers _ _ _ hv10) rfl rfl rfl rfl rfl (.cons (.own rfl rfl) .nil) (.cons (.c (.fr rfl (dt_alln rfl))) .nil) rfl rfl rfl rfl rfl) ?_
    refine rt (hL _ ?_)
    refine aw_jn (fun (p11 : (List Int)) => (⟨[(1, .c (.ptr (1, 0) 0 0)), (5, .c (.ptr (14, 0) 0 0))], [((1, 0), some (.box (List.map CV.p (e_api_Op a0)))), ((14, 2000), some (.row 1 (List.map (eI .u8) (p11)) true)), ((14, 0), some (.box ([.sl (14, 2000) 0 (List.map (eI .u8) (p11)).length])))]⟩ : St)) h (fun p11 h => ?_) (fun J11 L11 hL11 h => ?_)
    · refine tk fun L hL => ?_
      refine mv rfl ?_
      refine u0 (opL_fieldp (T := tb) rfl rfl rfl rfl rfl rfl rfl rfl rfl) ?_
      refine u0 (opL_load_box (T := tb) rfl rfl rfl rfl rfl rfl) ?_
      refine u0 (o_string_l (T := tb) rfl rfl rfl rfl rfl rfl rfl rfl) ?_
      refine ul (opL_build_sl (T := tb) (rows := List.map eS [(strOfNums (a0.fCoins))]) rfl rfl rfl rfl rfl rfl rfl rfl rfl rfl rfl rfl rfl) ?_
      obtain ⟨v18, hv18, h⟩ := h
      refine ul (opL_callr (c_operation_writer_texts _ _ _ hv18) rfl rfl rfl rfl rfl (.cons (.own rfl rfl) .nil) (.cons (.c (.fr rfl (dt_alln rfl))) .nil) rfl rfl rfl rfl rfl) ?_
      refine rt (hL _ ?_)
      refine tk fun L hL => ?_
      refine mv rfl ?_
      refine u0 (opL_fieldp (T := tb) rfl rfl rfl rfl rfl rfl rfl rfl rfl) ?_
      refine u0 (opL_load_box (T := tb) rfl rfl rfl rfl rfl rfl) ?_
      refine u0 (opL_fieldp (T := tb) rfl rfl rfl rfl rfl rfl rfl rfl rfl) ?_
      refine u0 (opL_load_box (T := tb) rfl rfl rfl rfl rfl rfl) ?_
      refine u0 (opL_fieldp (T := tb) rfl rfl rfl rfl rfl rfl rfl rfl rfl) ?_
      refine u0 (opL_load_box (T := tb) rfl rfl rfl rfl rfl rfl) ?_
      refine u0 (opL_fieldp (T := tb) rfl rfl rfl rfl rfl rfl rfl rfl rfl) ?_
      refine u0 (opL_load_box (T := tb) rfl rfl rfl rfl rfl rfl) ?_
      refine u0 (opL_fieldp (T := tb) rfl rfl rfl rfl rfl rfl rfl rfl rfl) ?_
      refine u0 (opL_load_box (T := tb) rfl rfl rfl rfl rfl rfl) ?_
      refine u0 (opL_fieldp (T := tb) rfl rfl rfl rfl rfl rfl rfl rfl rfl) ?_
      refine u0 (opL_load_box (T := tb) rfl rfl rfl rfl rfl rfl) ?_
      refine u0 (opL_fieldp (T := tb) rfl rfl rfl rfl rfl rfl rfl rfl rfl) ?_
      refine u0 (opL_fieldp (T := tb) rfl rfl rfl rfl rfl rfl rfl rfl rfl) ?_
      refine u0 (opL_load_box (T := tb) rfl rfl rfl rfl rfl rfl) ?_
      refine ul (opL_build_sl (T := tb) (rows := List.map (eI .i64) [(a0.fExpected), (a0.fSource), (a0.fHandle), (a0.fIndex), (a0.fCursor), (a0.fCount), (a0.fQuery.fKind)]) rfl rfl rfl rfl rfl rfl rfl rfl rfl rfl rfl rfl rfl) ?_
      obtain ⟨v19, hv19, h⟩ := h
      refine ul (opL_callr (c_operation_writer_numbers _ _ _ hv19) rfl rfl rfl rfl rfl (.cons (.own rfl rfl) .nil) (.cons (.c (.fr rfl (dt_alln rfl))) .nil) rfl rfl rfl rfl rfl) ?_
      refine rt (hL _ ?_)
      refine aw_sub (st' := ⟨[(1, .c (.ptr (1, 0) 0 0)), (5, .c (.ptr (14, 0) 0 0))], [((1, 0), some (.box (List.map CV.p (e_api_Op a0)))), ((14, 0), some (.box ([.sl (108, 0) 0 (List.map (eI .u8) (v19.fb)).length]))), ((108, 0), some (.row 1 (List.map (eI .u8) (v19.fb)) true))]⟩) (Sub.nm [1, 5] [((1, 0), (1, 0)), ((14, 0), (14, 0)), ((108, 0), (108, 0))] rfl rfl) ?_
      refine tk fun L hL => ?_
      refine mv rfl ?_
      refine u0 (opL_fieldp (T := tb) rfl rfl rfl rfl rfl rfl rfl rfl rfl) ?_
      refine u0 (opL_fieldp (T := tb) rfl rfl rfl rfl rfl rfl rfl rfl rfl) ?_
      refine u0 (opL_load_box (T := tb) rfl rfl rfl rfl rfl rfl) ?_
      refine ul (opL_build_sl (T := tb) (rows := List.map eS [(a0.fQuery.fKey)]) rfl rfl rfl rfl rfl rfl rfl rfl rfl rfl rfl rfl rfl) ?_
      obtain ⟨v20, hv20, h⟩ := h
      refine ul (opL_callr (c_operation_writer_texts _ _ _ hv20) rfl rfl rfl rfl rfl (.cons (.own rfl rfl) .nil) (.cons (.c (.fr rfl (dt_alln rfl))) .nil) rfl rfl rfl rfl rfl) ?_
      refine rt (hL _ ?_)
      refine tk fun L hL => ?_
      refine mv rfl ?_
      refine u0 (opL_fieldp (T := tb) rfl rfl rfl rfl rfl rfl rfl rfl rfl) ?_
      refine u0 (opL_fieldp (T := tb) rfl rfl rfl rfl rfl rfl rfl rfl rfl) ?_
      refine u0 (opL_load_box (T := tb) rfl rfl rfl rfl rfl rfl) ?_
      refine u0 (opL_fieldp (T := tb) rfl rfl rfl rfl rfl rfl rfl rfl rfl) ?_
      refine u0 (opL_fieldp (T := tb) rfl rfl rfl rfl rfl rfl rfl rfl rfl) ?_
      refine u0 (opL_load_box (T := tb) rfl rfl rfl rfl rfl rfl) ?_
      refine u0 (opL_fieldp (T := tb) rfl rfl rfl rfl rfl rfl rfl rfl rfl) ?_
      refine u0 (opL_fieldp (T := tb) rfl rfl rfl rfl rfl rfl rfl rfl rfl) ?_
      refine u0 (opL_load_box (T := tb) rfl rfl rfl rfl rfl rfl) ?_
      refine ul (opL_build_sl (T := tb) (rows := List.map (eI .i64) [(a0.fQuery.fCount), (a0.fQuery.fNum), (a0.fQuery.fDen)]) rfl rfl rfl rfl rfl rfl rfl rfl rfl rfl rfl rfl rfl) ?_
      obtain ⟨v21, hv21, h⟩ := h
      refine ul (opL_callr (c_operation_writer_numbers _ _ _ hv21) rfl rfl rfl rfl rfl (.cons (.own rfl rfl) .nil) (.cons (.c (.fr rfl (dt_alln rfl))) .nil) rfl rfl rfl rfl rfl) ?_
      refine rt (hL _ ?_)
      refine tk fun L hL => ?_
      refine mv rfl ?_
      refine u0 (opL_fieldp (T := tb) rfl rfl rfl rfl rfl rfl rfl rfl rfl) ?_
      refine u0 (opL_load_box (T := tb) rfl rfl rfl rfl rfl rfl) ?_
      refine u0 (o_string_l (T := tb) rfl rfl rfl rfl rfl rfl rfl rfl) ?_
      refine ul (opL_build_sl (T := tb) (rows := List.map eS [(strOfNums (a0.fData))]) rfl rfl rfl rfl rfl rfl rfl rfl rfl rfl rfl rfl rfl) ?_
      obtain ⟨v22, hv22, h⟩ := h
      refine ul (opL_callr (c_operation_writer_texts _ _ _ hv22) rfl rfl rfl rfl rfl (.cons (.own rfl rfl) .nil) (.cons (.c (.fr rfl (dt_alln rfl))) .nil) rfl rfl rfl rfl rfl) ?_
      refine rt (hL _ ?_)
      refine aw_sub (st' := ⟨[(5, .c (.ptr (14, 0) 0 0))], [((14, 0), some (.box ([.sl (132, 0) 0 (List.map (eI .u8) (v22.fb)).length]))), ((132, 0), some (.row 1 (List.map (eI .u8) (v22.fb)) true))]⟩) (Sub.nm [5] [((14, 0), (14, 0)), ((132, 0), (132, 0))] rfl rfl) ?_
      refine tk fun L hL => ?_
      refine mv rfl ?_
      refine u0 (opL_nilCheck rfl rfl rfl) ?_
      refine u0 (opL_fieldp (T := tb) rfl rfl rfl rfl rfl rfl rfl rfl rfl) ?_
      refine u0 (opL_load_box (T := tb) rfl rfl rfl rfl rfl rfl) ?_
      obtain ⟨v23, hv23, h⟩ := h
      refine ul (opL_callk (c_wire_Frame _ _ _ hv23) (noLl (NoLl.cons (.o (noL_map nl_eI)) (NoLl.cons (.p rfl) NoLl.nil))) rfl rfl (.cons (.c (.p _)) (.cons (.c (.fr rfl (dt_alln rfl))) .nil)) rfl rfl rfl) ?_
      refine u0 (opL_extract_c rfl rfl rfl) ?_
      refine u0 (opL_extract_c rfl rfl rfl) ?_
      refine asn rfl rfl ?_
      refine asn rfl rfl ?_
      refine rt (hL _ ?_)
      obtain rfl := h
      exact aw_ret (hQ _ _ ⟨.inr rfl, _, _, _, (.cons (.s rfl) (.cons (.p rfl) .nil)), (.cons (.c (.own rfl rfl)) (.cons (.c (.p _)) .nil)), rfl, rfl⟩)
    · refine tk fun L hL => ?_
      refine u0 (opL_fieldp (T := tb) rfl rfl rfl rfl rfl rfl rfl rfl rfl) ?_
      refine u0 (opL_load_box (T := tb) rfl rfl rfl rfl rfl rfl) ?_
      refine u0 (o_len_l (T := tb) rfl rfl rfl rfl) ?_
      refine u0 (opL_move_c rfl rfl) ?_
      refine rt (hL _ ?_)
      refine aw_block ?_
      refine aw_lp (fun (s12 : Int × (List Int)) => (⟨[(1, .c (.ptr (1, 0) 0 0)), (5, .c (.ptr (14, 0) 0 0)), (68, .c (.p (.l 2 (List.map e_api_Item (a0.fItems))))), (69, .c (.p (.v (.int .i64 (((a0.fItems).length : Int)))))), (70, .c (.p (.v (.int .i64 (s12.1)))))], [((1, 0), some (.box (List.map CV.p (e_api_Op a0)))), ((14, 2000), some (.row 1 (List.map (eI .u8) (s12.2)) true)), ((14, 0), some (.box ([.sl (14, 2000) 0 (List.map (eI .u8) (s12.2)).length])))]⟩ : St)) h (Sub.nm [1, 5, 68, 69, 70] [((1, 0), (1, 0)), ((66, 0), (14, 2000)), ((14, 0), (14, 0))] rfl (by kernel_rfl)) (fun X12 L12 hL12 s12 h => ?_)
      refine tk fun L hL => ?_
      refine u0 (opL_cmp (c := decide ((s12.1) < (((a0.fItems).length : Int)))) rfl rfl rfl rfl rfl) ?_
      refine rt (hL _ ?_)
      refine sk fun L13 hL13 => ?_
      refine cnd rfl h (fun h => ?_) fun h => ?_
      · refine aw_skip (hL13 _ ?_)
        refine sk fun L14 hL14 => ?_
        refine aw_block ?_
        refine tk fun L hL => ?_
        obtain ⟨v15, hv15, h⟩ := h
        refine u0 (o_idx_l (T := tb) hv15 rfl rfl rfl rfl rfl rfl rfl rfl) ?_
        refine u0 (opL_loads_ep (T := tb) rfl rfl rfl rfl rfl rfl rfl) ?_
        refine u1 (opL_alloc (T := tb) rfl rfl rfl) ?_
        refine un (opL_st_a (T := tb) rfl rfl rfl rfl rfl rfl rfl rfl rfl) ?_
        refine rt (hL _ ?_)
        refine tk fun L hL => ?_
        refine mv rfl ?_
        refine u0 (opL_fieldp (T := tb) rfl rfl rfl rfl rfl rfl rfl rfl rfl) ?_
        refine u0 (opL_load_box (T := tb) rfl rfl rfl rfl rfl rfl) ?_
        refine ul (opL_build_sl (T := tb) (rows := List.map eS [(v15.fKey)]) rfl rfl rfl rfl rfl rfl rfl rfl rfl rfl rfl rfl rfl) ?_
        obtain ⟨v16, hv16, h⟩ := h
        refine ul (opL_callr (c_operation_writer_texts _ _ _ hv16) rfl rfl rfl rfl rfl (.cons (.own rfl rfl) .nil) (.cons (.c (.fr rfl (dt_alln rfl))) .nil) rfl rfl rfl rfl rfl) ?_
        refine rt (hL _ ?_)
        refine tl fun L hL => ?_
        refine mv rfl ?_
        refine u0 (opL_fieldp (T := tb) rfl rfl rfl rfl rfl rfl rfl rfl rfl) ?_
        refine u0 (opL_load_box (T := tb) rfl rfl rfl rfl rfl rfl) ?_
        refine ul (opL_build_sl (T := tb) (rows := List.map (eI .i64) [(v15.fWeight)]) rfl rfl rfl rfl rfl rfl rfl rfl rfl rfl rfl rfl rfl) ?_
        obtain ⟨v17, hv17, h⟩ := h
        refine ul (opL_callr (c_operation_writer_numbers _ _ _ hv17) rfl rfl rfl rfl rfl (.cons (.own rfl rfl) .nil) (.cons (.c (.fr rfl (dt_alln rfl))) .nil) rfl rfl rfl rfl rfl) ?_
        refine rt (hL _ (hL14 _ ?_))
        refine tl fun L hL => ?_
        refine u0 (opL_add rfl rfl rfl rfl rfl) ?_
        refine mv rfl ?_
        refine rt (hL _ (hL12 _ _ h (Sub.nm [1, 5, 68, 69, 70] [((1, 0), (1, 0)), ((83, 0), (14, 2000)), ((14, 0), (14, 0))] rfl (by kernel_rfl))))
      · refine aw_exit (hL11 _ _ h (Sub.nm [1, 5] [((1, 0), (1, 0)), ((14, 2000), (14, 2000)), ((14, 0), (14, 0))] rfl (by kernel_rfl)))
def W_wire_DecodeUint (a0 : (List Int)) (Q : (Int × Int × Int) → Prop) : Prop :=
 (((((((a0).length : Int)) == (0))) = true → Q ((0), (0), (3))) ∧ ((((((a0).length : Int)) == (0))) = false → ∃ (v3 : Int), ix (a0) (0) v3 ∧ (((decide ((v3) < (248))) = true → ∃ (v4 : Int), ix (a0) (0) v4 ∧ Q ((IntKind.i64.wrap (v4)), (1), (0))) ∧ ((decide ((v3) < (248))) = false → ∃ (v5 : Int), ix (a0) (0) v5 ∧ (((decide ((((a0).length : Int)) < (IntKind.i64.wrap ((1) + (IntKind.i64.wrap ((IntKind.i64.wrap ((IntKind.i64.wrap (v5)) - (248))) + (1))))))) = true → Q ((0), (0), (3))) ∧ ((decide ((((a0).length : Int)) < (IntKind.i64.wrap ((1) + (IntKind.i64.wrap ((IntKind.i64.wrap ((IntKind.i64.wrap (v5)) - (248))) + (1))))))) = false → jn (fun (p7 : Int) => ∃ (v14 : Int), ix (a0) (1) v14 ∧ ((((bif (bif ((v14) == (0)) then true else decide ((p7) < (248))) then true else decide ((p7) > (4611686018427387904)))) = true → Q ((0), (0), (2))) ∧ (((bif (bif ((v14) == (0)) then true else decide ((p7) < (248))) then true else decide ((p7) > (4611686018427387904)))) = false → Q ((IntKind.i64.wrap (p7)), (IntKind.i64.wrap ((1) + (IntKind.i64.wrap ((IntKind.i64.wrap ((IntKind.i64.wrap (v5)) - (248))) + (1))))), (0))))) (fun (J7 : Int → Prop) => ((0 : Int) ≤ (1) ∧ (1 : Int) ≤ (IntKind.i64.wrap ((1) + (IntKind.i64.wrap ((IntKind.i64.wrap ((IntKind.i64.wrap (v5)) - (248))) + (1))))) ∧ (IntKind.i64.wrap ((1) + (IntKind.i64.wrap ((IntKind.i64.wrap ((IntKind.i64.wrap (v5)) - (248))) + (1)))) : Int) ≤ ((a0).length : Int)) ∧ lp (fun (X9 : Int × Int → Prop) (s9 : Int × Int) => (((decide ((s9.2) < (((List.drop (Int.toNat (1)) (List.take (Int.toNat (IntKind.i64.wrap ((1) + (IntKind.i64.wrap ((IntKind.i64.wrap ((IntKind.i64.wrap (v5)) - (248))) + (1)))))) (a0))).length : Int)))) = true → ∃ (v12 : Int), ix (List.drop (Int.toNat (1)) (List.take (Int.toNat (IntKind.i64.wrap ((1) + (IntKind.i64.wrap ((IntKind.i64.wrap ((IntKind.i64.wrap (v5)) - (248))) + (1)))))) (a0))) (s9.2) v12 ∧ X9 ((bOr .u64 (iShl .u64 (s9.1) (8)) (IntKind.u64.wrap (v12))), (IntKind.i64.wrap ((s9.2) + (1))))) ∧ ((decide ((s9.2) < (((List.drop (Int.toNat (1)) (List.take (Int.toNat (IntKind.i64.wrap ((1) + (IntKind.i64.wrap ((IntKind.i64.wrap ((IntKind.i64.wrap (v5)) - (248))) + (1)))))) (a0))).length : Int)))) = false → J7 ((s9.1))))) ((0), (0)))))))))
def R_wire_DecodeUint (a0 : (List Int)) (r : Int × Int × Int) : Prop := W_wire_DecodeUint a0 fun x => r = x
theorem e_wire_DecodeUint {a0 : (List Int)} {Post : (Int × Int × Int) → Prop} (h : W_wire_DecodeUint a0 Post) : ∃ r, R_wire_DecodeUint a0 r ∧ Post r := (show GM (W_wire_DecodeUint a0) (W_wire_DecodeUint a0) from GM.cond (GM.ret _) (GM.ex fun v3 => GM.cond (GM.ex fun v4 => GM.ret _) (GM.ex fun v5 => GM.cond (GM.ret _) (GM.join (fun p7 => GM.ex fun v14 => GM.cond (GM.ret _) (GM.ret _)) (fun _ _ J7 => GM.and (GM.loop (fun X Y Q s9 X9 h => ⟨fun hc => (Exists.elim ((h).1 hc) fun v12 hv12 => ⟨v12, hv12.1, X9 _ (hv12.2)⟩), fun hc => (h).2 hc⟩) (fun _ _ X9 s9 => GM.cond (GM.ex fun v12 => X9 _) (J7 _)))))))) Post h
theorem c_wire_DecodeUint (a0 : (List Int)) (r : Int × Int × Int) (h : R_wire_DecodeUint a0 r) : Contract Try.prog 50 [.c (.l 1 (List.map (eI .u8) (a0)))] [.c (.p (.v (.int .i64 (r.1)))), .c (.p (.v (.int .i64 (r.2.1)))), .c (.p (.v (.int .i64 (r.2.2))))] [] := by
  refine contract0 tb Try.func50 rfl (by kernel_rfl) rfl rfl (Nat.le_of_ble_eq_true rfl) rfl ?_
  intro E
  unfold R_wire_DecodeUint W_wire_DecodeUint at h
  refine aw_Q (fun Q hQ => ?_)
  refine tk fun L hL => ?_
  refine asn rfl rfl ?_
  refine asn rfl rfl ?_
  refine asn rfl rfl ?_
  refine rt (hL _ ?_)
  refine sk fun L1 hL1 => ?_
  refine tk fun L hL => ?_
  refine mv rfl ?_
  refine u0 (o_len_l (T := tb) rfl rfl rfl rfl) ?_
  refine u0 (opL_cmp (c := ((((a0).length : Int)) == (0))) rfl rfl rfl rfl rfl) ?_
  refine rt (hL _ ?_)
  refine cnd rfl h (fun h => ?_) fun h => ?_
  · refine tk fun L hL => ?_
    refine asn rfl rfl ?_
    refine asn rfl rfl ?_
    refine asn rfl rfl ?_
    refine rt (hL _ ?_)
    obtain rfl := h
    exact aw_ret (hQ _ _ ⟨.inr rfl, _, _, _, (.cons (.p rfl) (.cons (.p rfl) (.cons (.p rfl) .nil))), (.cons (.c (.p _)) (.cons (.c (.p _)) (.cons (.c (.p _)) .nil))), rfl, rfl⟩)
  · refine aw_skip (hL1 _ ?_)
    refine sk fun L2 hL2 => ?_
    refine tk fun L hL => ?_
    refine mv rfl ?_
    obtain ⟨v3, hv3, h⟩ := h
    refine u0 (o_idx_l (T := tb) hv3 rfl rfl rfl rfl rfl rfl rfl rfl) ?_
    refine u0 (opL_load_ep (T := tb) rfl rfl rfl rfl rfl) ?_
    refine u0 (opL_cmp (c := decide ((v3) < (248))) rfl rfl rfl rfl rfl) ?_
    refine rt (hL _ ?_)
    refine cnd rfl h (fun h => ?_) fun h => ?_
    · refine tk fun L hL => ?_
      refine mv rfl ?_
      obtain ⟨v4, hv4, h⟩ := h
      refine u0 (o_idx_l (T := tb) hv4 rfl rfl rfl rfl rfl rfl rfl rfl) ?_
      refine u0 (opL_load_ep (T := tb) rfl rfl rfl rfl rfl) ?_
      refine u0 (opL_conv (T := tb) rfl rfl rfl rfl rfl rfl) ?_
      refine asn rfl rfl ?_
      refine asn rfl rfl ?_
      refine asn rfl rfl ?_
      refine rt (hL _ ?_)
      obtain rfl := h
      exact aw_ret (hQ _ _ ⟨.inr rfl, _, _, _, (.cons (.p rfl) (.cons (.p rfl) (.cons (.p rfl) .nil))), (.cons (.c (.p _)) (.cons (.c (.p _)) (.cons (.c (.p _)) .nil))), rfl, rfl⟩)
    · refine aw_skip (hL2 _ ?_)
      refine tk fun L hL => ?_
      refine mv rfl ?_
      obtain ⟨v5, hv5, h⟩ := h
      refine u0 (o_idx_l (T := tb) hv5 rfl rfl rfl rfl rfl rfl rfl rfl) ?_
      refine u0 (opL_load_ep (T := tb) rfl rfl rfl rfl rfl) ?_
      refine u0 (opL_conv (T := tb) rfl rfl rfl rfl rfl rfl) ?_
      refine u0 (opL_sub rfl rfl rfl rfl rfl) ?_
      refine u0 (opL_add rfl rfl rfl rfl rfl) ?_
      refine asn rfl rfl ?_
      refine rt (hL _ ?_)
      refine sk fun L6 hL6 => ?_
      refine tk fun L hL => ?_
      refine mv rfl ?_
      refine u0 (o_len_l (T := tb) rfl rfl rfl rfl) ?_
      refine mv rfl ?_
      refine u0 (opL_add rfl rfl rfl rfl rfl) ?_
      refine u0 (opL_cmp (c := decide ((((a0).length : Int)) < (IntKind.i64.wrap ((1) + (IntKind.i64.wrap ((IntKind.i64.wrap ((IntKind.i64.wrap (v5)) - (248))) + (1))))))) rfl rfl rfl rfl rfl) ?_
      refine rt (hL _ ?_)
      refine cnd rfl h (fun h => ?_) fun h => ?_
      · refine tk fun L hL => ?_
        refine asn rfl rfl ?_
        refine asn rfl rfl ?_
        refine asn rfl rfl ?_
        refine rt (hL _ ?_)
        obtain rfl := h
        exact aw_ret (hQ _ _ ⟨.inr rfl, _, _, _, (.cons (.p rfl) (.cons (.p rfl) (.cons (.p rfl) .nil))), (.cons (.c (.p _)) (.cons (.c (.p _)) (.cons (.c (.p _)) .nil))), rfl, rfl⟩)
      · refine aw_skip (hL6 _ ?_)
        refine tk fun L hL => ?_
        refine asn rfl rfl ?_
        refine rt (hL _ ?_)
        refine aw_jn (fun (p7 : Int) => (⟨[(0, .c (.p (.l 1 (List.map (eI .u8) (a0))))), (5, .c (.p (.v (.int .i64 (IntKind.i64.wrap ((IntKind.i64.wrap ((IntKind.i64.wrap (v5)) - (248))) + (1))))))), (6, .c (.p (.v (.int .u64 (p7)))))], []⟩ : St)) h (fun p7 h => ?_) (fun J7 L7 hL7 h => ?_)
        · refine sk fun L13 hL13 => ?_
          refine tk fun L hL => ?_
          refine mv rfl ?_
          obtain ⟨v14, hv14, h⟩ := h
          refine u0 (o_idx_l (T := tb) hv14 rfl rfl rfl rfl rfl rfl rfl rfl) ?_
          refine u0 (opL_load_ep (T := tb) rfl rfl rfl rfl rfl) ?_
          refine u0 (opL_cmp (c := ((v14) == (0))) rfl rfl rfl rfl rfl) ?_
          refine mv rfl ?_
          refine run_g rfl rfl beq_f (fun hg => opL_move_c rfl rfl) ?_
          refine run_g rfl rfl beq_f (fun hg => opL_cmp (c := decide ((p7) < (248))) (gt_t hg) rfl rfl rfl rfl) ?_
          refine u0 (opL_pick_gr (v := .bool (true)) (w := .bool (decide ((p7) < (248)))) rfl rfl beq_f rfl bif_v rfl rfl rfl) ?_
          refine mv rfl ?_
          refine run_g rfl rfl beq_f (fun hg => opL_move_c rfl rfl) ?_
          refine run_g rfl rfl beq_f (fun hg => opL_cmp (c := decide ((p7) > (4611686018427387904))) (gt_t hg) rfl rfl rfl rfl) ?_
          refine u0 (opL_pick_gr (v := .bool (true)) (w := .bool (decide ((p7) > (4611686018427387904)))) rfl rfl beq_f rfl bif_v rfl rfl rfl) ?_
          refine rt (hL _ ?_)
          refine aw_sub (st' := ⟨[(5, .c (.p (.v (.int .i64 (IntKind.i64.wrap ((IntKind.i64.wrap ((IntKind.i64.wrap (v5)) - (248))) + (1))))))), (6, .c (.p (.v (.int .u64 (p7))))), (57, .c (.p (.v (.bool ((bif (bif ((v14) == (0)) then true else decide ((p7) < (248))) then true else decide ((p7) > (4611686018427387904))))))))], []⟩) (Sub.nm [5, 6, 57] [] rfl rfl) ?_
          refine cnd rfl h (fun h => ?_) fun h => ?_
          · refine tk fun L hL => ?_
            refine asn rfl rfl ?_
            refine asn rfl rfl ?_
            refine asn rfl rfl ?_
            refine rt (hL _ ?_)
            obtain rfl := h
            exact aw_ret (hQ _ _ ⟨.inr rfl, _, _, _, (.cons (.p rfl) (.cons (.p rfl) (.cons (.p rfl) .nil))), (.cons (.c (.p _)) (.cons (.c (.p _)) (.cons (.c (.p _)) .nil))), rfl, rfl⟩)
          · refine aw_skip (hL13 _ ?_)
            refine tk fun L hL => ?_
            refine mv rfl ?_
            refine u0 (opL_conv (T := tb) rfl rfl rfl rfl rfl rfl) ?_
            refine mv rfl ?_
            refine u0 (opL_add rfl rfl rfl rfl rfl) ?_
            refine asn rfl rfl ?_
            refine asn rfl rfl ?_
            refine asn rfl rfl ?_
            refine rt (hL _ ?_)
            obtain rfl := h
            exact aw_ret (hQ _ _ ⟨.inr rfl, _, _, _, (.cons (.p rfl) (.cons (.p rfl) (.cons (.p rfl) .nil))), (.cons (.c (.p _)) (.cons (.c (.p _)) (.cons (.c (.p _)) .nil))), rfl, rfl⟩)
        · refine tk fun L hL => ?_
          refine mv rfl ?_
          refine mv rfl ?_
          refine u0 (opL_add rfl rfl rfl rfl rfl) ?_
          obtain ⟨hm8, h⟩ := h
          refine u0 (o_slice_both (T := tb) hm8 rfl rfl rfl rfl rfl rfl rfl rfl rfl rfl) ?_
          refine u0 (o_len_l (T := tb) rfl rfl rfl rfl) ?_
          refine u0 (opL_move_c rfl rfl) ?_
          refine rt (hL _ ?_)
          refine aw_sub (st' := ⟨[(0, .c (.p (.l 1 (List.map (eI .u8) (a0))))), (5, .c (.p (.v (.int .i64 (IntKind.i64.wrap ((IntKind.i64.wrap ((IntKind.i64.wrap (v5)) - (248))) + (1))))))), (6, .c (.p (.v (.int .u64 (0))))), (34, .c (.p (.l 1 (List.map (eI .u8) (List.drop (Int.toNat (1)) (List.take (Int.toNat (IntKind.i64.wrap ((1) + (IntKind.i64.wrap ((IntKind.i64.wrap ((IntKind.i64.wrap (v5)) - (248))) + (1)))))) (a0))))))), (35, .c (.p (.v (.int .i64 (((List.drop (Int.toNat (1)) (List.take (Int.toNat (IntKind.i64.wrap ((1) + (IntKind.i64.wrap ((IntKind.i64.wrap ((IntKind.i64.wrap (v5)) - (248))) + (1)))))) (a0))).length : Int)))))), (36, .c (.p (.v (.int .i64 (0)))))], []⟩) (Sub.nm [0, 5, 6, 34, 35, 36] [] rfl rfl) ?_
          refine aw_block ?_
          refine aw_lp (fun (s9 : Int × Int) => (⟨[(0, .c (.p (.l 1 (List.map (eI .u8) (a0))))), (5, .c (.p (.v (.int .i64 (IntKind.i64.wrap ((IntKind.i64.wrap ((IntKind.i64.wrap (v5)) - (248))) + (1))))))), (6, .c (.p (.v (.int .u64 (s9.1))))), (34, .c (.p (.l 1 (List.map (eI .u8) (List.drop (Int.toNat (1)) (List.take (Int.toNat (IntKind.i64.wrap ((1) + (IntKind.i64.wrap ((IntKind.i64.wrap ((IntKind.i64.wrap (v5)) - (248))) + (1)))))) (a0))))))), (35, .c (.p (.v (.int .i64 (((List.drop (Int.toNat (1)) (List.take (Int.toNat (IntKind.i64.wrap ((1) + (IntKind.i64.wrap ((IntKind.i64.wrap ((IntKind.i64.wrap (v5)) - (248))) + (1)))))) (a0))).length : Int)))))), (36, .c (.p (.v (.int .i64 (s9.2)))))], []⟩ : St)) h (Sub.nm [0, 5, 6, 34, 35, 36] [] rfl (by kernel_rfl)) (fun X9 L9 hL9 s9 h => ?_)
          refine tk fun L hL => ?_
          refine u0 (opL_cmp (c := decide ((s9.2) < (((List.drop (Int.toNat (1)) (List.take (Int.toNat (IntKind.i64.wrap ((1) + (IntKind.i64.wrap ((IntKind.i64.wrap ((IntKind.i64.wrap (v5)) - (248))) + (1)))))) (a0))).length : Int)))) rfl rfl rfl rfl rfl) ?_
          refine rt (hL _ ?_)
          refine sk fun L10 hL10 => ?_
          refine cnd rfl h (fun h => ?_) fun h => ?_
          · refine aw_skip (hL10 _ ?_)
            refine sk fun L11 hL11 => ?_
            refine aw_block ?_
            refine tk fun L hL => ?_
            obtain ⟨v12, hv12, h⟩ := h
            refine u0 (o_idx_l (T := tb) hv12 rfl rfl rfl rfl rfl rfl rfl rfl) ?_
            refine u0 (opL_load_ep (T := tb) rfl rfl rfl rfl rfl) ?_
            refine asn rfl rfl ?_
            refine rt (hL _ ?_)
            refine tl fun L hL => ?_
            refine mv rfl ?_
            refine u0 (o_shl (by decide) rfl rfl rfl rfl) ?_
            refine mv rfl ?_
            refine u0 (opL_conv (T := tb) rfl rfl rfl rfl rfl rfl) ?_
            refine u0 (opL_int (z := .int .u64 (bOr .u64 (iShl .u64 (s9.1) (8)) (IntKind.u64.wrap (v12)))) rfl rfl rfl rfl rfl) ?_
            refine asn rfl rfl ?_
            refine rt (hL _ (hL11 _ ?_))
            refine tl fun L hL => ?_
            refine u0 (opL_add rfl rfl rfl rfl rfl) ?_
            refine mv rfl ?_
            refine rt (hL _ (hL9 _ _ h (Sub.nm [0, 5, 6, 34, 35, 36] [] rfl (by kernel_rfl))))
          · refine aw_exit (hL7 _ _ h (Sub.nm [0, 5, 6] [] rfl (by kernel_rfl)))
def W_wire_Unframe (a0 : (List Int)) (Q : (Int × (List Int) × Int × Int) → Prop) : Prop :=
 (((((((a0).length : Int)) == (0))) = true → Q ((0), ([] : (List Int)), (0), (3))) ∧ ((((((a0).length : Int)) == (0))) = false → ((0 : Int) ≤ (1) ∧ (1 : Int) ≤ ((a0).length : Int)) ∧ ∃ (v3 : Int × Int × Int), R_wire_DecodeUint (List.drop (Int.toNat (1)) (a0)) v3 ∧ (((((v3.2.2) != (0))) = true → Q ((0), ([] : (List Int)), (0), (v3.2.2))) ∧ ((((v3.2.2) != (0))) = false → (((decide ((v3.1) > (1048576))) = true → Q ((0), ([] : (List Int)), (0), (2))) ∧ ((decide ((v3.1) > (1048576))) = false → (((decide ((((a0).length : Int)) < (IntKind.i64.wrap ((IntKind.i64.wrap ((IntKind.i64.wrap ((1) + (v3.2.1))) + (v3.1))) + (4))))) = true → Q ((0), ([] : (List Int)), (0), (3))) ∧ ((decide ((((a0).length : Int)) < (IntKind.i64.wrap ((IntKind.i64.wrap ((IntKind.i64.wrap ((1) + (v3.2.1))) + (v3.1))) + (4))))) = false → jn (fun (p5 : Int) => ((0 : Int) ≤ (IntKind.i64.wrap ((IntKind.i64.wrap ((1) + (v3.2.1))) + (v3.1))) ∧ (IntKind.i64.wrap ((IntKind.i64.wrap ((1) + (v3.2.1))) + (v3.1)) : Int) ≤ ((a0).length : Int)) ∧ ∃ (v13 : Int), R_wire_Checksum (List.take (Int.toNat (IntKind.i64.wrap ((IntKind.i64.wrap ((1) + (v3.2.1))) + (v3.1)))) (a0)) v13 ∧ (((((p5) != (v13))) = true → Q ((0), ([] : (List Int)), (0), (4))) ∧ ((((p5) != (v13))) = false → ∃ (v14 : Int), ix (a0) (0) v14 ∧ ((0 : Int) ≤ (IntKind.i64.wrap ((1) + (v3.2.1))) ∧ (IntKind.i64.wrap ((1) + (v3.2.1)) : Int) ≤ (IntKind.i64.wrap ((IntKind.i64.wrap ((1) + (v3.2.1))) + (v3.1))) ∧ (IntKind.i64.wrap ((IntKind.i64.wrap ((1) + (v3.2.1))) + (v3.1)) : Int) ≤ ((a0).length : Int)) ∧ (((([] : List Int)).length + (List.drop (Int.toNat (IntKind.i64.wrap ((1) + (v3.2.1)))) (List.take (Int.toNat (IntKind.i64.wrap ((IntKind.i64.wrap ((1) + (v3.2.1))) + (v3.1)))) (a0))).length) * 1 ≤ 140737488355328) ∧ Q ((v14), ((([] : List Int)) ++ (List.drop (Int.toNat (IntKind.i64.wrap ((1) + (v3.2.1)))) (List.take (Int.toNat (IntKind.i64.wrap ((IntKind.i64.wrap ((1) + (v3.2.1))) + (v3.1)))) (a0)))), (IntKind.i64.wrap ((IntKind.i64.wrap ((IntKind.i64.wrap ((1) + (v3.2.1))) + (v3.1))) + (4))), (0))))) (fun (J5 : Int → Prop) => ((0 : Int) ≤ (IntKind.i64.wrap ((IntKind.i64.wrap ((1) + (v3.2.1))) + (v3.1))) ∧ (IntKind.i64.wrap ((IntKind.i64.wrap ((1) + (v3.2.1))) + (v3.1)) : Int) ≤ (IntKind.i64.wrap ((IntKind.i64.wrap ((IntKind.i64.wrap ((1) + (v3.2.1))) + (v3.1))) + (4))) ∧ (IntKind.i64.wrap ((IntKind.i64.wrap ((IntKind.i64.wrap ((1) + (v3.2.1))) + (v3.1))) + (4)) : Int) ≤ ((a0).length : Int)) ∧ lp (fun (X7 : Int × Int → Prop) (s7 : Int × Int) => (((decide ((s7.2) < (((List.drop (Int.toNat (IntKind.i64.wrap ((IntKind.i64.wrap ((1) + (v3.2.1))) + (v3.1)))) (List.take (Int.toNat (IntKind.i64.wrap ((IntKind.i64.wrap ((IntKind.i64.wrap ((1) + (v3.2.1))) + (v3.1))) + (4)))) (a0))).length : Int)))) = true → ∃ (v10 : Int), ix (List.drop (Int.toNat (IntKind.i64.wrap ((IntKind.i64.wrap ((1) + (v3.2.1))) + (v3.1)))) (List.take (Int.toNat (IntKind.i64.wrap ((IntKind.i64.wrap ((IntKind.i64.wrap ((1) + (v3.2.1))) + (v3.1))) + (4)))) (a0))) (s7.2) v10 ∧ X7 ((bOr .u32 (iShl .u32 (s7.1) (8)) (IntKind.u32.wrap (v10))), (IntKind.i64.wrap ((s7.2) + (1))))) ∧ ((decide ((s7.2) < (((List.drop (Int.toNat (IntKind.i64.wrap ((IntKind.i64.wrap ((1) + (v3.2.1))) + (v3.1)))) (List.take (Int.toNat (IntKind.i64.wrap ((IntKind.i64.wrap ((IntKind.i64.wrap ((1) + (v3.2.1))) + (v3.1))) + (4)))) (a0))).length : Int)))) = false → J5 ((s7.1))))) ((0), (0)))))))))))
def R_wire_Unframe (a0 : (List Int)) (r : Int × (List Int) × Int × Int) : Prop := W_wire_Unframe a0 fun x => r = x
theorem e_wire_Unframe {a0 : (List Int)} {Post : (Int × (List Int) × Int × Int) → Prop} (h : W_wire_Unframe a0 Post) : ∃ r, R_wire_Unframe a0 r ∧ Post r := (show GM (W_wire_Unframe a0) (W_wire_Unframe a0) from GM.cond (GM.ret _) (GM.and (GM.ex fun v3 => GM.cond (GM.ret _) (GM.cond (GM.ret _) (GM.cond (GM.ret _) (GM.join (fun p5 => GM.and (GM.ex fun v13 => GM.cond (GM.ret _) (GM.ex fun v14 => GM.and (GM.and (GM.ret _))))) (fun _ _ J5 => GM.and (GM.loop (fun X Y Q s7 X7 h => ⟨fun hc => (Exists.elim ((h).1 hc) fun v10 hv10 => ⟨v10, hv10.1, X7 _ (hv10.2)⟩), fun hc => (h).2 hc⟩) (fun _ _ X7 s7 => GM.cond (GM.ex fun v10 => X7 _) (J5 _)))))))))) Post h
theorem c_wire_Unframe (a0 : (List Int)) (r : Int × (List Int) × Int × Int) (h : R_wire_Unframe a0 r) : Contract Try.prog 31 [.c (.l 1 (List.map (eI .u8) (a0)))] [.c (.p (.v (.int .u8 (r.1)))), .c (.own 1 (List.map (eI .u8) (r.2.1))), .c (.p (.v (.int .i64 (r.2.2.1)))), .c (.p (.v (.int .i64 (r.2.2.2))))] [] := by
  refine contract0 tb Try.func31 rfl (by kernel_rfl) rfl rfl (Nat.le_of_ble_eq_true rfl) rfl ?_
  intro E
  unfold R_wire_Unframe W_wire_Unframe at h
  refine aw_Q (fun Q hQ => ?_)
  refine tk fun L hL => ?_
  refine asn rfl rfl ?_
  refine asn rfl rfl ?_
  refine asn rfl rfl ?_
  refine asn rfl rfl ?_
  refine rt (hL _ ?_)
  refine sk fun L1 hL1 => ?_
  refine tk fun L hL => ?_
  refine mv rfl ?_
  refine u0 (o_len_l (T := tb) rfl rfl rfl rfl) ?_
  refine u0 (opL_cmp (c := ((((a0).length : Int)) == (0))) rfl rfl rfl rfl rfl) ?_
  refine rt (hL _ ?_)
  refine cnd rfl h (fun h => ?_) fun h => ?_
  · refine tk fun L hL => ?_
    refine asn rfl rfl ?_
    refine asn rfl rfl ?_
    refine asn rfl rfl ?_
    refine asn rfl rfl ?_
    refine rt (hL _ ?_)
    obtain rfl := h
    exact aw_ret (hQ _ _ ⟨.inr rfl, _, _, _, (.cons (.p rfl) (.cons (.p rfl) (.cons (.p rfl) (.cons (.p rfl) .nil)))), (.cons (.c (.p _)) (.cons (.c (.nilo _ (Nat.le_of_ble_eq_true rfl))) (.cons (.c (.p _)) (.cons (.c (.p _)) .nil)))), rfl, rfl⟩)
  · refine aw_skip (hL1 _ ?_)
    refine tk fun L hL => ?_
    refine mv rfl ?_
    obtain ⟨hm2, h⟩ := h
    refine u0 (o_slice_lo (T := tb) hm2 rfl rfl rfl rfl rfl rfl rfl rfl) ?_
    obtain ⟨v3, hv3, h⟩ := h
    refine u0 (opL_call0 (c_wire_DecodeUint _ _ hv3) rfl rfl (.cons (.c (.p _)) .nil) rfl rfl rfl) ?_
    refine u0 (opL_move_t rfl rfl) ?_
    refine u0 (opL_extract_c rfl rfl rfl) ?_
    refine u0 (opL_extract_c rfl rfl rfl) ?_
    refine u0 (opL_extract_c rfl rfl rfl) ?_
    refine asn rfl rfl ?_
    refine asn rfl rfl ?_
    refine asn rfl rfl ?_
    refine rt (hL _ ?_)
    refine sk fun L4 hL4 => ?_
    refine aw_block ?_
    refine tk fun L hL => ?_
    refine mv rfl ?_
    refine u0 (opL_cmp (c := ((v3.2.2) != (0))) rfl rfl rfl rfl rfl) ?_
    refine asn rfl rfl ?_
    refine rt (hL _ ?_)
    refine cnd rfl h (fun h => ?_) fun h => ?_
    · refine tk fun L hL => ?_
      refine mv rfl ?_
      refine asn rfl rfl ?_
      refine asn rfl rfl ?_
      refine asn rfl rfl ?_
      refine asn rfl rfl ?_
      refine rt (hL _ ?_)
      obtain rfl := h
      exact aw_ret (hQ _ _ ⟨.inr rfl, _, _, _, (.cons (.p rfl) (.cons (.p rfl) (.cons (.p rfl) (.cons (.p rfl) .nil)))), (.cons (.c (.p _)) (.cons (.c (.nilo _ (Nat.le_of_ble_eq_true rfl))) (.cons (.c (.p _)) (.cons (.c (.p _)) .nil)))), rfl, rfl⟩)
    · refine tk fun L hL => ?_
      refine mv rfl ?_
      refine u0 (opL_cmp (c := decide ((v3.1) > (1048576))) rfl rfl rfl rfl rfl) ?_
      refine asn rfl rfl ?_
      refine rt (hL _ ?_)
      refine cnd rfl h (fun h => ?_) fun h => ?_
      · refine tk fun L hL => ?_
        refine asn rfl rfl ?_
        refine asn rfl rfl ?_
        refine asn rfl rfl ?_
        refine asn rfl rfl ?_
        refine rt (hL _ ?_)
        obtain rfl := h
        exact aw_ret (hQ _ _ ⟨.inr rfl, _, _, _, (.cons (.p rfl) (.cons (.p rfl) (.cons (.p rfl) (.cons (.p rfl) .nil)))), (.cons (.c (.p _)) (.cons (.c (.nilo _ (Nat.le_of_ble_eq_true rfl))) (.cons (.c (.p _)) (.cons (.c (.p _)) .nil)))), rfl, rfl⟩)
      · refine tk fun L hL => ?_
        refine mv rfl ?_
        refine u0 (o_len_l (T := tb) rfl rfl rfl rfl) ?_
        refine mv rfl ?_
        refine u0 (opL_add rfl rfl rfl rfl rfl) ?_
        refine mv rfl ?_
        refine u0 (opL_add rfl rfl rfl rfl rfl) ?_
        refine u0 (opL_add rfl rfl rfl rfl rfl) ?_
        refine u0 (opL_cmp (c := decide ((((a0).length : Int)) < (IntKind.i64.wrap ((IntKind.i64.wrap ((IntKind.i64.wrap ((1) + (v3.2.1))) + (v3.1))) + (4))))) rfl rfl rfl rfl rfl) ?_
        refine asn rfl rfl ?_
        refine rt (hL _ ?_)
        refine aw_sub (st' := ⟨[(0, .c (.p (.l 1 (List.map (eI .u8) (a0))))), (6, .c (.p (.v (.int .i64 (v3.1))))), (7, .c (.p (.v (.int .i64 (v3.2.1))))), (29, .c (.p (.v (.bool (decide ((((a0).length : Int)) < (IntKind.i64.wrap ((IntKind.i64.wrap ((IntKind.i64.wrap ((1) + (v3.2.1))) + (v3.1))) + (4)))))))))], []⟩) (Sub.nm [0, 6, 7, 29] [] rfl rfl) ?_
        refine cnd rfl h (fun h => ?_) fun h => ?_
        · refine tk fun L hL => ?_
          refine asn rfl rfl ?_
          refine asn rfl rfl ?_
          refine asn rfl rfl ?_
          refine asn rfl rfl ?_
          refine rt (hL _ ?_)
          obtain rfl := h
          exact aw_ret (hQ _ _ ⟨.inr rfl, _, _, _, (.cons (.p rfl) (.cons (.p rfl) (.cons (.p rfl) (.cons (.p rfl) .nil)))), (.cons (.c (.p _)) (.cons (.c (.nilo _ (Nat.le_of_ble_eq_true rfl))) (.cons (.c (.p _)) (.cons (.c (.p _)) .nil)))), rfl, rfl⟩)
        · refine aw_skip (hL4 _ ?_)
          refine tk fun L hL => ?_
          refine mv rfl ?_
          refine u0 (opL_add rfl rfl rfl rfl rfl) ?_
          refine mv rfl ?_
          refine u0 (opL_add rfl rfl rfl rfl rfl) ?_
          refine asn rfl rfl ?_
          refine rt (hL _ ?_)
          refine tk fun L hL => ?_
          refine asn rfl rfl ?_
          refine rt (hL _ ?_)
          refine aw_jn (fun (p5 : Int) => (⟨[(0, .c (.p (.l 1 (List.map (eI .u8) (a0))))), (7, .c (.p (.v (.int .i64 (v3.2.1))))), (8, .c (.p (.v (.int .i64 (IntKind.i64.wrap ((IntKind.i64.wrap ((1) + (v3.2.1))) + (v3.1))))))), (9, .c (.p (.v (.int .u32 (p5)))))], []⟩ : St)) h (fun p5 h => ?_) (fun J5 L5 hL5 h => ?_)
          · refine sk fun L11 hL11 => ?_
            refine tk fun L hL => ?_
            refine mv rfl ?_
            refine mv rfl ?_
            refine mv rfl ?_
            obtain ⟨hm12, h⟩ := h
            refine u0 (o_slice_hi (T := tb) hm12 rfl rfl rfl rfl rfl rfl rfl rfl) ?_
            obtain ⟨v13, hv13, h⟩ := h
            refine u0 (opL_call0 (c_wire_Checksum _ _ hv13) rfl rfl (.cons (.c (.p _)) .nil) rfl rfl rfl) ?_
            refine u0 (opL_cmp (c := ((p5) != (v13))) rfl rfl rfl rfl rfl) ?_
            refine rt (hL _ ?_)
            refine cnd rfl h (fun h => ?_) fun h => ?_
            · refine tk fun L hL => ?_
              refine asn rfl rfl ?_
              refine asn rfl rfl ?_
              refine asn rfl rfl ?_
              refine asn rfl rfl ?_
              refine rt (hL _ ?_)
              obtain rfl := h
              exact aw_ret (hQ _ _ ⟨.inr rfl, _, _, _, (.cons (.p rfl) (.cons (.p rfl) (.cons (.p rfl) (.cons (.p rfl) .nil)))), (.cons (.c (.p _)) (.cons (.c (.nilo _ (Nat.le_of_ble_eq_true rfl))) (.cons (.c (.p _)) (.cons (.c (.p _)) .nil)))), rfl, rfl⟩)
            · refine aw_skip (hL11 _ ?_)
              refine dk mixed (fun L hL => ?_)
              refine mv rfl ?_
              obtain ⟨v14, hv14, h⟩ := h
              refine u0 (o_idx_l (T := tb) hv14 rfl rfl rfl rfl rfl rfl rfl rfl) ?_
              refine u0 (opL_load_ep (T := tb) rfl rfl rfl rfl rfl) ?_
              refine ul (o_build0 (T := tb) (f := (eI .u8)) rfl rfl rfl rfl rfl) ?_
              refine mv rfl ?_
              refine mv rfl ?_
              refine u0 (opL_add rfl rfl rfl rfl rfl) ?_
              refine mv rfl ?_
              obtain ⟨hm15, h⟩ := h
              refine u0 (o_slice_both (T := tb) hm15 rfl rfl rfl rfl rfl rfl rfl rfl rfl rfl) ?_
              obtain ⟨hm16, h⟩ := h
              refine ul (o_app_sl (T := tb) (f := (eI .u8)) (L := ([] : List Int)) (L' := List.drop (Int.toNat (IntKind.i64.wrap ((1) + (v3.2.1)))) (List.take (Int.toNat (IntKind.i64.wrap ((IntKind.i64.wrap ((1) + (v3.2.1))) + (v3.1)))) (a0))) hm16 rfl rfl rfl rfl rfl rfl rfl rfl rfl rfl rfl (srcT_l (T := tb) mem_app rfl rfl rfl rfl rfl)) ?_
              refine mv rfl ?_
              refine u0 (opL_add rfl rfl rfl rfl rfl) ?_
              refine asn rfl rfl ?_
              refine asn rfl rfl ?_
              refine asn rfl rfl ?_
              refine asn rfl rfl ?_
              refine rd (hL _ ?_)
              obtain rfl := h
              exact aw_ret (hQ _ _ ⟨.inr rfl, _, _, _, (.cons (.p rfl) (.cons (.s rfl) (.cons (.p rfl) (.cons (.p rfl) .nil)))), (.cons (.c (.p _)) (.cons (.c (.own rfl rfl)) (.cons (.c (.p _)) (.cons (.c (.p _)) .nil)))), rfl, rfl⟩)
          · refine tk fun L hL => ?_
            refine mv rfl ?_
            refine mv rfl ?_
            refine mv rfl ?_
            refine u0 (opL_add rfl rfl rfl rfl rfl) ?_
            obtain ⟨hm6, h⟩ := h
            refine u0 (o_slice_both (T := tb) hm6 rfl rfl rfl rfl rfl rfl rfl rfl rfl rfl) ?_
            refine u0 (o_len_l (T := tb) rfl rfl rfl rfl) ?_
            refine u0 (opL_move_c rfl rfl) ?_
            refine rt (hL _ ?_)
            refine aw_block ?_
            refine aw_lp (fun (s7 : Int × Int) => (⟨[(0, .c (.p (.l 1 (List.map (eI .u8) (a0))))), (7, .c (.p (.v (.int .i64 (v3.2.1))))), (8, .c (.p (.v (.int .i64 (IntKind.i64.wrap ((IntKind.i64.wrap ((1) + (v3.2.1))) + (v3.1))))))), (9, .c (.p (.v (.int .u32 (s7.1))))), (46, .c (.p (.l 1 (List.map (eI .u8) (List.drop (Int.toNat (IntKind.i64.wrap ((IntKind.i64.wrap ((1) + (v3.2.1))) + (v3.1)))) (List.take (Int.toNat (IntKind.i64.wrap ((IntKind.i64.wrap ((IntKind.i64.wrap ((1) + (v3.2.1))) + (v3.1))) + (4)))) (a0))))))), (47, .c (.p (.v (.int .i64 (((List.drop (Int.toNat (IntKind.i64.wrap ((IntKind.i64.wrap ((1) + (v3.2.1))) + (v3.1)))) (List.take (Int.toNat (IntKind.i64.wrap ((IntKind.i64.wrap ((IntKind.i64.wrap ((1) + (v3.2.1))) + (v3.1))) + (4)))) (a0))).length : Int)))))), (48, .c (.p (.v (.int .i64 (s7.2)))))], []⟩ : St)) h (Sub.nm [0, 7, 8, 9, 46, 47, 48] [] rfl (by kernel_rfl)) (fun X7 L7 hL7 s7 h => ?_)
            refine tk fun L hL => ?_
            refine u0 (opL_cmp (c := decide ((s7.2) < (((List.drop (Int.toNat (IntKind.i64.wrap ((IntKind.i64.wrap ((1) + (v3.2.1))) + (v3.1)))) (List.take (Int.toNat (IntKind.i64.wrap ((IntKind.i64.wrap ((IntKind.i64.wrap ((1) + (v3.2.1))) + (v3.1))) + (4)))) (a0))).length : Int)))) rfl rfl rfl rfl rfl) ?_
            refine rt (hL _ ?_)
            refine sk fun L8 hL8 => ?_
            refine cnd rfl h (fun h => ?_) fun h => ?_
            · refine aw_skip (hL8 _ ?_)
              refine sk fun L9 hL9 => ?_
              refine aw_block ?_
              refine tk fun L hL => ?_
              obtain ⟨v10, hv10, h⟩ := h
              refine u0 (o_idx_l (T := tb) hv10 rfl rfl rfl rfl rfl rfl rfl rfl) ?_
              refine u0 (opL_load_ep (T := tb) rfl rfl rfl rfl rfl) ?_
              refine asn rfl rfl ?_
              refine rt (hL _ ?_)
              refine tl fun L hL => ?_
              refine mv rfl ?_
              refine u0 (o_shl (by decide) rfl rfl rfl rfl) ?_
              refine mv rfl ?_
              refine u0 (opL_conv (T := tb) rfl rfl rfl rfl rfl rfl) ?_
              refine u0 (opL_int (z := .int .u32 (bOr .u32 (iShl .u32 (s7.1) (8)) (IntKind.u32.wrap (v10)))) rfl rfl rfl rfl rfl) ?_
              refine asn rfl rfl ?_
              refine rt (hL _ (hL9 _ ?_))
              refine tl fun L hL => ?_
              refine u0 (opL_add rfl rfl rfl rfl rfl) ?_
              refine mv rfl ?_
              refine rt (hL _ (hL7 _ _ h (Sub.nm [0, 7, 8, 9, 46, 47, 48] [] rfl (by kernel_rfl))))
            · refine aw_exit (hL5 _ _ h (Sub.nm [0, 7, 8, 9] [] rfl (by kernel_rfl)))
def W_operation_reader_take (a0 : T_operation_reader) (a1 : Int) (a2 : Int) (Q : (Bool × T_operation_reader) → Prop) : Prop :=
 ((((bif a0.fbad then true else ((a2) != (0)))) = true → Q ((false), (T_operation_reader.mk (a0.fb) (true)))) ∧ (((bif a0.fbad then true else ((a2) != (0)))) = false → ((0 : Int) ≤ (a1) ∧ (a1 : Int) ≤ ((a0.fb).length : Int)) ∧ Q ((true), (T_operation_reader.mk (List.drop (Int.toNat (a1)) (a0.fb)) (a0.fbad)))))
def R_operation_reader_take (a0 : T_operation_reader) (a1 : Int) (a2 : Int) (r : Bool × T_operation_reader) : Prop := W_operation_reader_take a0 a1 a2 fun x => r = x
theorem e_operation_reader_take {a0 : T_operation_reader} {a1 : Int} {a2 : Int} {Post : (Bool × T_operation_reader) → Prop} (h : W_operation_reader_take a0 a1 a2 Post) : ∃ r, R_operation_reader_take a0 a1 a2 r ∧ Post r := (show GM (W_operation_reader_take a0 a1 a2) (W_operation_reader_take a0 a1 a2) from GM.cond (GM.ret _) (GM.and (GM.ret _))) Post h
theorem c_operation_reader_take (a0 : T_operation_reader) (a1 : Int) (a2 : Int) (r : Bool × T_operation_reader) (h : R_operation_reader_take a0 a1 a2 r) : Contract Try.prog 51 [.ref [.p (.l 1 (List.map (eI .u8) (a0.fb))), .p (.v (.bool (a0.fbad)))], .c (.v (.int .i64 (a1))), .c (.v (.int .i64 (a2)))] [.c (.p (.v (.bool (r.1))))] [.p (.l 1 (List.map (eI .u8) (r.2.fb))), .p (.v (.bool (r.2.fbad)))] := by
  refine contractR tb Try.func51 rfl (by kernel_rfl) rfl rfl (Nat.le_of_ble_eq_true rfl) rfl ?_
  intro E
  unfold R_operation_reader_take W_operation_reader_take at h
  refine aw_Q (fun Q hQ => ?_)
  refine tk fun L hL => ?_
  refine asn rfl rfl ?_
  refine rt (hL _ ?_)
  refine aw_scope (l := 0) rfl (fun G hG => ?_)
  refine sk fun L1 hL1 => ?_
  refine tk fun L hL => ?_
  refine mv rfl ?_
  refine u0 (opL_nilCheck rfl rfl rfl) ?_
  refine u0 (opL_fieldp (T := tb) rfl rfl rfl rfl rfl rfl rfl rfl rfl) ?_
  refine u0 (opL_load_box (T := tb) rfl rfl rfl rfl rfl rfl) ?_
  refine mv rfl ?_
  refine run_g rfl rfl beq_f (fun hg => opL_move_c rfl rfl) ?_
  refine run_g rfl rfl beq_f (fun hg => opL_cmp (c := ((a2) != (0))) (gt_t hg) rfl rfl rfl rfl) ?_
  refine u0 (opL_pick_gr (v := .bool (true)) (w := .bool (((a2) != (0)))) rfl rfl beq_f rfl bif_v rfl rfl rfl) ?_
  refine rt (hL _ ?_)
  refine aw_sub (st' := ⟨[(0, .c (.ptr pinB 0 0)), (1, .c (.p (.v (.int .i64 (a1))))), (14, .c (.p (.v (.bool ((bif a0.fbad then true else ((a2) != (0))))))))], [(pinB, some (.box (List.map CV.p (e_operation_reader a0))))]⟩) (Sub.nm [0, 1, 14] [(pinB, pinB)] rfl rfl) ?_
  refine cnd rfl h (fun h => ?_) fun h => ?_
  · refine aw_goto ⟨rfl, hG _ ?_⟩
    refine sk fun L2 hL2 => ?_
    refine aw_skip (hL2 _ ?_)
    refine tk fun L hL => ?_
    refine mv rfl ?_
    refine u0 (opL_nilCheck rfl rfl rfl) ?_
    refine u0 (opL_fieldp (T := tb) rfl rfl rfl rfl rfl rfl rfl rfl rfl) ?_
    refine un (opL_st_c (T := tb) rfl rfl rfl rfl rfl rfl rfl rfl rfl rfl) ?_
    refine rt (hL _ ?_)
    refine tk fun L hL => ?_
    refine asn rfl rfl ?_
    refine rt (hL _ ?_)
    obtain rfl := h
    exact aw_ret (hQ _ _ ⟨.inr rfl, _, _, _, _, _, _, (.cons (.p rfl) .nil), (.cons (.c (.p _)) .nil), rfl, (.cons (.p _) (.cons (.p _) .nil)), rfl, rfl⟩)
  · refine aw_skip (hL1 _ ?_)
    refine tk fun L hL => ?_
    refine mv rfl ?_
    refine mv rfl ?_
    refine u0 (opL_nilCheck rfl rfl rfl) ?_
    refine u0 (opL_fieldp (T := tb) rfl rfl rfl rfl rfl rfl rfl rfl rfl) ?_
    refine u0 (opL_load_box (T := tb) rfl rfl rfl rfl rfl rfl) ?_
    refine mv rfl ?_
    obtain ⟨hm3, h⟩ := h
    refine u0 (o_slice_lo (T := tb) hm3 rfl rfl rfl rfl rfl rfl rfl rfl) ?_
    refine u0 (opL_nilCheck rfl rfl rfl) ?_
    refine u0 (opL_fieldp (T := tb) rfl rfl rfl rfl rfl rfl rfl rfl rfl) ?_
    refine un (opL_st_c (T := tb) rfl rfl rfl rfl rfl rfl rfl rfl rfl rfl) ?_
    refine rt (hL _ ?_)
    refine sk fun L4 hL4 => ?_
    refine tk fun L hL => ?_
    refine asn rfl rfl ?_
    refine rt (hL _ ?_)
    obtain rfl := h
    exact aw_ret (hQ _ _ ⟨.inr rfl, _, _, _, _, _, _, (.cons (.p rfl) .nil), (.cons (.c (.p _)) .nil), rfl, (.cons (.p _) (.cons (.p _) .nil)), rfl, rfl⟩)
def W_operation_reader_number (a0 : T_operation_reader) (Q : (Int × T_operation_reader) → Prop) : Prop :=
 ∃ (v1 : Int × Int × Int), R_wire_DecodeUint (a0.fb) v1 ∧ ∃ (v3 : Bool × T_operation_reader), R_operation_reader_take a0 (v1.2.1) (v1.2.2) v3 ∧ (((!(v3.1)) = true → Q ((0), v3.2)) ∧ ((!(v3.1)) = false → Q ((v1.1), v3.2)))
def R_operation_reader_number (a0 : T_operation_reader) (r : Int × T_operation_reader) : Prop := W_operation_reader_number a0 fun x => r = x
theorem e_operation_reader_number {a0 : T_operation_reader} {Post : (Int × T_operation_reader) → Prop} (h : W_operation_reader_number a0 Post) : ∃ r, R_operation_reader_number a0 r ∧ Post r := (show GM (W_operation_reader_number a0) (W_operation_reader_number a0) from GM.ex fun v1 => GM.ex fun v3 => GM.cond (GM.ret _) (GM.ret _)) Post h
theorem c_operation_reader_number (a0 : T_operation_reader) (r : Int × T_operation_reader) (h : R_operation_reader_number a0 r) : Contract Try.prog 32 [.ref [.p (.l 1 (List.map (eI .u8) (a0.fb))), .p (.v (.bool (a0.fbad)))]] [.c (.p (.v (.int .i64 (r.1))))] [.p (.l 1 (List.map (eI .u8) (r.2.fb))), .p (.v (.bool (r.2.fbad)))] := by
  refine contractR tb Try.func32 rfl (by kernel_rfl) rfl rfl (Nat.le_of_ble_eq_true rfl) rfl ?_
  intro E
  unfold R_operation_reader_number W_operation_reader_number at h
  refine aw_Q (fun Q hQ => ?_)
  refine tk fun L hL => ?_
  refine asn rfl rfl ?_
  refine rt (hL _ ?_)
  refine tk fun L hL => ?_
  refine mv rfl ?_
  refine u0 (opL_nilCheck rfl rfl rfl) ?_
  refine u0 (opL_fieldp (T := tb) rfl rfl rfl rfl rfl rfl rfl rfl rfl) ?_
  refine u0 (opL_load_box (T := tb) rfl rfl rfl rfl rfl rfl) ?_
  obtain ⟨v1, hv1, h⟩ := h
  refine u0 (opL_call0 (c_wire_DecodeUint _ _ hv1) rfl rfl (.cons (.c (.p _)) .nil) rfl rfl rfl) ?_
  refine u0 (opL_move_t rfl rfl) ?_
  refine u0 (opL_extract_c rfl rfl rfl) ?_
  refine u0 (opL_extract_c rfl rfl rfl) ?_
  refine u0 (opL_extract_c rfl rfl rfl) ?_
  refine asn rfl rfl ?_
  refine asn rfl rfl ?_
  refine asn rfl rfl ?_
  refine rt (hL _ ?_)
  refine sk fun L2 hL2 => ?_
  refine tk fun L hL => ?_
  refine mv rfl ?_
  refine mv rfl ?_
  refine mv rfl ?_
  obtain ⟨v3, hv3, h⟩ := h
  refine ul (opL_callr (c_operation_reader_take _ _ _ _ hv3) rfl rfl rfl rfl rfl (.cons (.p _) (.cons (.p _) .nil)) (.cons (.c (.p _)) (.cons (.c (.p _)) .nil)) rfl rfl rfl rfl rfl) ?_
  refine u0 (opL_not rfl rfl rfl) ?_
  refine rt (hL _ ?_)
  refine cnd rfl h (fun h => ?_) fun h => ?_
  · refine tk fun L hL => ?_
    refine asn rfl rfl ?_
    refine rt (hL _ ?_)
    obtain rfl := h
    exact aw_ret (hQ _ _ ⟨.inr rfl, _, _, _, _, _, _, (.cons (.p rfl) .nil), (.cons (.c (.p _)) .nil), rfl, (.cons (.p _) (.cons (.p _) .nil)), rfl, rfl⟩)
  · refine aw_skip (hL2 _ ?_)
    refine tk fun L hL => ?_
    refine mv rfl ?_
    refine asn rfl rfl ?_
    refine rt (hL _ ?_)
    obtain rfl := h
    exact aw_ret (hQ _ _ ⟨.inr rfl, _, _, _, _, _, _, (.cons (.p rfl) .nil), (.cons (.c (.p _)) .nil), rfl, (.cons (.p _) (.cons (.p _) .nil)), rfl, rfl⟩)
def W_wire_DecodeText (a0 : (List Int)) (Q : (ByteArray × Int × Int) → Prop) : Prop :=
 ∃ (v1 : Int × Int × Int), R_wire_DecodeUint (a0) v1 ∧ (((((v1.2.2) != (0))) = true → Q (((⟨#[]⟩ : ByteArray)), (0), (v1.2.2))) ∧ ((((v1.2.2) != (0))) = false → (((decide ((v1.1) > (65536))) = true → Q (((⟨#[]⟩ : ByteArray)), (0), (2))) ∧ ((decide ((v1.1) > (65536))) = false → (((decide ((IntKind.i64.wrap ((((a0).length : Int)) - (v1.2.1))) < (v1.1))) = true → Q (((⟨#[]⟩ : ByteArray)), (0), (3))) ∧ ((decide ((IntKind.i64.wrap ((((a0).length : Int)) - (v1.2.1))) < (v1.1))) = false → ((0 : Int) ≤ (v1.2.1) ∧ (v1.2.1 : Int) ≤ (IntKind.i64.wrap ((v1.2.1) + (v1.1))) ∧ (IntKind.i64.wrap ((v1.2.1) + (v1.1)) : Int) ≤ ((a0).length : Int)) ∧ Q ((strOfNums (List.drop (Int.toNat (v1.2.1)) (List.take (Int.toNat (IntKind.i64.wrap ((v1.2.1) + (v1.1)))) (a0)))), (IntKind.i64.wrap ((v1.2.1) + (v1.1))), (0))))))))
def R_wire_DecodeText (a0 : (List Int)) (r : ByteArray × Int × Int) : Prop := W_wire_DecodeText a0 fun x => r = x
theorem e_wire_DecodeText {a0 : (List Int)} {Post : (ByteArray × Int × Int) → Prop} (h : W_wire_DecodeText a0 Post) : ∃ r, R_wire_DecodeText a0 r ∧ Post r := (show GM (W_wire_DecodeText a0) (W_wire_DecodeText a0) from GM.ex fun v1 => GM.cond (GM.ret _) (GM.cond (GM.ret _) (GM.cond (GM.ret _) (GM.and (GM.ret _))))) Post h
theorem c_wire_DecodeText (a0 : (List Int)) (r : ByteArray × Int × Int) (h : R_wire_DecodeText a0 r) : Contract Try.prog 52 [.c (.l 1 (List.map (eI .u8) (a0)))] [.c (.p (.v (.string (r.1)))), .c (.p (.v (.int .i64 (r.2.1)))), .c (.p (.v (.int .i64 (r.2.2))))] [] := by
  refine contract0 tb Try.func52 rfl (by kernel_rfl) rfl rfl (Nat.le_of_ble_eq_true rfl) rfl ?_
  intro E
  unfold R_wire_DecodeText W_wire_DecodeText at h
  refine aw_Q (fun Q hQ => ?_)
  refine tk fun L hL => ?_
  refine asn rfl rfl ?_
  refine asn rfl rfl ?_
  refine asn rfl rfl ?_
  refine rt (hL _ ?_)
  refine tk fun L hL => ?_
  refine mv rfl ?_
  obtain ⟨v1, hv1, h⟩ := h
  refine u0 (opL_call0 (c_wire_DecodeUint _ _ hv1) rfl rfl (.cons (.c (.p _)) .nil) rfl rfl rfl) ?_
  refine u0 (opL_move_t rfl rfl) ?_
  refine u0 (opL_extract_c rfl rfl rfl) ?_
  refine u0 (opL_extract_c rfl rfl rfl) ?_
  refine u0 (opL_extract_c rfl rfl rfl) ?_
  refine asn rfl rfl ?_
  refine asn rfl rfl ?_
  refine asn rfl rfl ?_
  refine rt (hL _ ?_)
  refine sk fun L2 hL2 => ?_
  refine aw_block ?_
  refine tk fun L hL => ?_
  refine mv rfl ?_
  refine u0 (opL_cmp (c := ((v1.2.2) != (0))) rfl rfl rfl rfl rfl) ?_
  refine asn rfl rfl ?_
  refine rt (hL _ ?_)
  refine cnd rfl h (fun h => ?_) fun h => ?_
  · refine tk fun L hL => ?_
    refine mv rfl ?_
    refine asn rfl rfl ?_
    refine asn rfl rfl ?_
    refine asn rfl rfl ?_
    refine rt (hL _ ?_)
    obtain rfl := h
    exact aw_ret (hQ _ _ ⟨.inr rfl, _, _, _, (.cons (.p rfl) (.cons (.p rfl) (.cons (.p rfl) .nil))), (.cons (.c (.p _)) (.cons (.c (.p _)) (.cons (.c (.p _)) .nil))), rfl, rfl⟩)
  · refine tk fun L hL => ?_
    refine mv rfl ?_
    refine u0 (opL_cmp (c := decide ((v1.1) > (65536))) rfl rfl rfl rfl rfl) ?_
    refine asn rfl rfl ?_
    refine rt (hL _ ?_)
    refine cnd rfl h (fun h => ?_) fun h => ?_
    · refine tk fun L hL => ?_
      refine asn rfl rfl ?_
      refine asn rfl rfl ?_
      refine asn rfl rfl ?_
      refine rt (hL _ ?_)
      obtain rfl := h
      exact aw_ret (hQ _ _ ⟨.inr rfl, _, _, _, (.cons (.p rfl) (.cons (.p rfl) (.cons (.p rfl) .nil))), (.cons (.c (.p _)) (.cons (.c (.p _)) (.cons (.c (.p _)) .nil))), rfl, rfl⟩)
    · refine tk fun L hL => ?_
      refine mv rfl ?_
      refine u0 (o_len_l (T := tb) rfl rfl rfl rfl) ?_
      refine mv rfl ?_
      refine u0 (opL_sub rfl rfl rfl rfl rfl) ?_
      refine mv rfl ?_
      refine u0 (opL_cmp (c := decide ((IntKind.i64.wrap ((((a0).length : Int)) - (v1.2.1))) < (v1.1))) rfl rfl rfl rfl rfl) ?_
      refine asn rfl rfl ?_
      refine rt (hL _ ?_)
      refine cnd rfl h (fun h => ?_) fun h => ?_
      · refine tk fun L hL => ?_
        refine asn rfl rfl ?_
        refine asn rfl rfl ?_
        refine asn rfl rfl ?_
        refine rt (hL _ ?_)
        obtain rfl := h
        exact aw_ret (hQ _ _ ⟨.inr rfl, _, _, _, (.cons (.p rfl) (.cons (.p rfl) (.cons (.p rfl) .nil))), (.cons (.c (.p _)) (.cons (.c (.p _)) (.cons (.c (.p _)) .nil))), rfl, rfl⟩)
      · refine aw_skip (hL2 _ ?_)
        refine tk fun L hL => ?_
        refine mv rfl ?_
        refine mv rfl ?_
        refine mv rfl ?_
        refine mv rfl ?_
        refine u0 (opL_add rfl rfl rfl rfl rfl) ?_
        obtain ⟨hm3, h⟩ := h
        refine u0 (o_slice_both (T := tb) hm3 rfl rfl rfl rfl rfl rfl rfl rfl rfl rfl) ?_
        refine u0 (o_string_l (T := tb) rfl rfl rfl rfl rfl rfl rfl rfl) ?_
        refine mv rfl ?_
        refine mv rfl ?_
        refine u0 (opL_add rfl rfl rfl rfl rfl) ?_
        refine asn rfl rfl ?_
        refine asn rfl rfl ?_
        refine asn rfl rfl ?_
        refine rt (hL _ ?_)
        refine aw_sub (st' := ⟨[(2, .c (.p (.v (.string (strOfNums (List.drop (Int.toNat (v1.2.1)) (List.take (Int.toNat (IntKind.i64.wrap ((v1.2.1) + (v1.1)))) (a0)))))))), (3, .c (.p (.v (.int .i64 (IntKind.i64.wrap ((v1.2.1) + (v1.1))))))), (4, .c (.p (.v (.int .i64 (0)))))], []⟩) (Sub.nm [2, 3, 4] [] rfl rfl) ?_
        obtain rfl := h
        exact aw_ret (hQ _ _ ⟨.inr rfl, _, _, _, (.cons (.p rfl) (.cons (.p rfl) (.cons (.p rfl) .nil))), (.cons (.c (.p _)) (.cons (.c (.p _)) (.cons (.c (.p _)) .nil))), rfl, rfl⟩)
def W_operation_reader_text (a0 : T_operation_reader) (Q : (ByteArray × T_operation_reader) → Prop) : Prop :=
 ∃ (v1 : ByteArray × Int × Int), R_wire_DecodeText (a0.fb) v1 ∧ ∃ (v3 : Bool × T_operation_reader), R_operation_reader_take a0 (v1.2.1) (v1.2.2) v3 ∧ (((!(v3.1)) = true → Q (((⟨#[]⟩ : ByteArray)), v3.2)) ∧ ((!(v3.1)) = false → Q ((v1.1), v3.2)))
def R_operation_reader_text (a0 : T_operation_reader) (r : ByteArray × T_operation_reader) : Prop := W_operation_reader_text a0 fun x => r = x
theorem e_operation_reader_text {a0 : T_operation_reader} {Post : (ByteArray × T_operation_reader) → Prop} (h : W_operation_reader_text a0 Post) : ∃ r, R_operation_reader_text a0 r ∧ Post r := (show GM (W_operation_reader_text a0) (W_operation_reader_text a0) from GM.ex fun v1 => GM.ex fun v3 => GM.cond (GM.ret _) (GM.ret _)) Post h
theorem c_operation_reader_text (a0 : T_operation_reader) (r : ByteArray × T_operation_reader) (h : R_operation_reader_text a0 r) : Contract Try.prog 33 [.ref [.p (.l 1 (List.map (eI .u8) (a0.fb))), .p (.v (.bool (a0.fbad)))]] [.c (.p (.v (.string (r.1))))] [.p (.l 1 (List.map (eI .u8) (r.2.fb))), .p (.v (.bool (r.2.fbad)))] := by
  refine contractR tb Try.func33 rfl (by kernel_rfl) rfl rfl (Nat.le_of_ble_eq_true rfl) rfl ?_
  intro E
  unfold R_operation_reader_text W_operation_reader_text at h
  refine aw_Q (fun Q hQ => ?_)
  refine tk fun L hL => ?_
  refine asn rfl rfl ?_
  refine rt (hL _ ?_)
  refine tk fun L hL => ?_
  refine mv rfl ?_
  refine u0 (opL_nilCheck rfl rfl rfl) ?_
  refine u0 (opL_fieldp (T := tb) rfl rfl rfl rfl rfl rfl rfl rfl rfl) ?_
  refine u0 (opL_load_box (T := tb) rfl rfl rfl rfl rfl rfl) ?_
  obtain ⟨v1, hv1, h⟩ := h
  refine u0 (opL_call0 (c_wire_DecodeText _ _ hv1) rfl rfl (.cons (.c (.p _)) .nil) rfl rfl rfl) ?_
  refine u0 (opL_move_t rfl rfl) ?_
  refine u0 (opL_extract_c rfl rfl rfl) ?_
  refine u0 (opL_extract_c rfl rfl rfl) ?_
  refine u0 (opL_extract_c rfl rfl rfl) ?_
  refine asn rfl rfl ?_
  refine asn rfl rfl ?_
  refine asn rfl rfl ?_
  refine rt (hL _ ?_)
  refine sk fun L2 hL2 => ?_
  refine tk fun L hL => ?_
  refine mv rfl ?_
  refine mv rfl ?_
  refine mv rfl ?_
  obtain ⟨v3, hv3, h⟩ := h
  refine ul (opL_callr (c_operation_reader_take _ _ _ _ hv3) rfl rfl rfl rfl rfl (.cons (.p _) (.cons (.p _) .nil)) (.cons (.c (.p _)) (.cons (.c (.p _)) .nil)) rfl rfl rfl rfl rfl) ?_
  refine u0 (opL_not rfl rfl rfl) ?_
  refine rt (hL _ ?_)
  refine cnd rfl h (fun h => ?_) fun h => ?_
  · refine tk fun L hL => ?_
    refine asn rfl rfl ?_
    refine rt (hL _ ?_)
    obtain rfl := h
    exact aw_ret (hQ _ _ ⟨.inr rfl, _, _, _, _, _, _, (.cons (.p rfl) .nil), (.cons (.c (.p _)) .nil), rfl, (.cons (.p _) (.cons (.p _) .nil)), rfl, rfl⟩)
  · refine aw_skip (hL2 _ ?_)
    refine tk fun L hL => ?_
    refine mv rfl ?_
    refine asn rfl rfl ?_
    refine rt (hL _ ?_)
    obtain rfl := h
    exact aw_ret (hQ _ _ ⟨.inr rfl, _, _, _, _, _, _, (.cons (.p rfl) .nil), (.cons (.c (.p _)) .nil), rfl, (.cons (.p _) (.cons (.p _) .nil)), rfl, rfl⟩)
def W_wire_DecodeWord (a0 : (List Int)) (Q : (Int × Int × Int) → Prop) : Prop :=
 (((decide ((((a0).length : Int)) < (8))) = true → Q ((0), (0), (3))) ∧ ((decide ((((a0).length : Int)) < (8))) = false → jn (fun (p2 : Int) => Q ((p2), (8), (0))) (fun (J2 : Int → Prop) => ((0 : Int) ≤ (8) ∧ (8 : Int) ≤ ((a0).length : Int)) ∧ lp (fun (X4 : Int × Int → Prop) (s4 : Int × Int) => (((decide ((s4.2) < (((List.take (Int.toNat (8)) (a0)).length : Int)))) = true → ∃ (v7 : Int), ix (List.take (Int.toNat (8)) (a0)) (s4.2) v7 ∧ X4 ((bOr .u64 (iShl .u64 (s4.1) (8)) (IntKind.u64.wrap (v7))), (IntKind.i64.wrap ((s4.2) + (1))))) ∧ ((decide ((s4.2) < (((List.take (Int.toNat (8)) (a0)).length : Int)))) = false → J2 ((s4.1))))) ((0), (0)))))
def R_wire_DecodeWord (a0 : (List Int)) (r : Int × Int × Int) : Prop := W_wire_DecodeWord a0 fun x => r = x
theorem e_wire_DecodeWord {a0 : (List Int)} {Post : (Int × Int × Int) → Prop} (h : W_wire_DecodeWord a0 Post) : ∃ r, R_wire_DecodeWord a0 r ∧ Post r := (show GM (W_wire_DecodeWord a0) (W_wire_DecodeWord a0) from GM.cond (GM.ret _) (GM.join (fun p2 => GM.ret _) (fun _ _ J2 => GM.and (GM.loop (fun X Y Q s4 X4 h => ⟨fun hc => (Exists.elim ((h).1 hc) fun v7 hv7 => ⟨v7, hv7.1, X4 _ (hv7.2)⟩), fun hc => (h).2 hc⟩) (fun _ _ X4 s4 => GM.cond (GM.ex fun v7 => X4 _) (J2 _)))))) Post h
theorem c_wire_DecodeWord (a0 : (List Int)) (r : Int × Int × Int) (h : R_wire_DecodeWord a0 r) : Contract Try.prog 53 [.c (.l 1 (List.map (eI .u8) (a0)))] [.c (.p (.v (.int .u64 (r.1)))), .c (.p (.v (.int .i64 (r.2.1)))), .c (.p (.v (.int .i64 (r.2.2))))] [] := by
  refine contract0 tb Try.func53 rfl (by kernel_rfl) rfl rfl (Nat.le_of_ble_eq_true rfl) rfl ?_
  intro E
  unfold R_wire_DecodeWord W_wire_DecodeWord at h
  refine aw_Q (fun Q hQ => ?_)
  refine tk fun L hL => ?_
  refine asn rfl rfl ?_
  refine asn rfl rfl ?_
  refine asn rfl rfl ?_
  refine rt (hL _ ?_)
  refine sk fun L1 hL1 => ?_
  refine tk fun L hL => ?_
  refine mv rfl ?_
  refine u0 (o_len_l (T := tb) rfl rfl rfl rfl) ?_
  refine u0 (opL_cmp (c := decide ((((a0).length : Int)) < (8))) rfl rfl rfl rfl rfl) ?_
  refine rt (hL _ ?_)
  refine cnd rfl h (fun h => ?_) fun h => ?_
  · refine tk fun L hL => ?_
    refine asn rfl rfl ?_
    refine asn rfl rfl ?_
    refine asn rfl rfl ?_
    refine rt (hL _ ?_)
    obtain rfl := h
    exact aw_ret (hQ _ _ ⟨.inr rfl, _, _, _, (.cons (.p rfl) (.cons (.p rfl) (.cons (.p rfl) .nil))), (.cons (.c (.p _)) (.cons (.c (.p _)) (.cons (.c (.p _)) .nil))), rfl, rfl⟩)
  · refine aw_skip (hL1 _ ?_)
    refine aw_jn (fun (p2 : Int) => (⟨[(2, .c (.p (.v (.int .u64 (p2)))))], []⟩ : St)) h (fun p2 h => ?_) (fun J2 L2 hL2 h => ?_)
    · refine tk fun L hL => ?_
      refine mv rfl ?_
      refine asn rfl rfl ?_
      refine asn rfl rfl ?_
      refine asn rfl rfl ?_
      refine rt (hL _ ?_)
      obtain rfl := h
      exact aw_ret (hQ _ _ ⟨.inr rfl, _, _, _, (.cons (.p rfl) (.cons (.p rfl) (.cons (.p rfl) .nil))), (.cons (.c (.p _)) (.cons (.c (.p _)) (.cons (.c (.p _)) .nil))), rfl, rfl⟩)
    · refine tk fun L hL => ?_
      refine mv rfl ?_
      obtain ⟨hm3, h⟩ := h
      refine u0 (o_slice_hi (T := tb) hm3 rfl rfl rfl rfl rfl rfl rfl rfl) ?_
      refine u0 (o_len_l (T := tb) rfl rfl rfl rfl) ?_
      refine u0 (opL_move_c rfl rfl) ?_
      refine rt (hL _ ?_)
      refine aw_block ?_
      refine aw_lp (fun (s4 : Int × Int) => (⟨[(2, .c (.p (.v (.int .u64 (s4.1))))), (11, .c (.p (.l 1 (List.map (eI .u8) (List.take (Int.toNat (8)) (a0)))))), (12, .c (.p (.v (.int .i64 (((List.take (Int.toNat (8)) (a0)).length : Int)))))), (13, .c (.p (.v (.int .i64 (s4.2)))))], []⟩ : St)) h (Sub.nm [2, 11, 12, 13] [] rfl (by kernel_rfl)) (fun X4 L4 hL4 s4 h => ?_)
      refine tk fun L hL => ?_
      refine u0 (opL_cmp (c := decide ((s4.2) < (((List.take (Int.toNat (8)) (a0)).length : Int)))) rfl rfl rfl rfl rfl) ?_
      refine rt (hL _ ?_)
      refine sk fun L5 hL5 => ?_
      refine cnd rfl h (fun h => ?_) fun h => ?_
      · refine aw_skip (hL5 _ ?_)
        refine sk fun L6 hL6 => ?_
        refine aw_block ?_
        refine tk fun L hL => ?_
        obtain ⟨v7, hv7, h⟩ := h
        refine u0 (o_idx_l (T := tb) hv7 rfl rfl rfl rfl rfl rfl rfl rfl) ?_
        refine u0 (opL_load_ep (T := tb) rfl rfl rfl rfl rfl) ?_
        refine asn rfl rfl ?_
        refine rt (hL _ ?_)
        refine tl fun L hL => ?_
        refine mv rfl ?_
        refine u0 (o_shl (by decide) rfl rfl rfl rfl) ?_
        refine mv rfl ?_
        refine u0 (opL_conv (T := tb) rfl rfl rfl rfl rfl rfl) ?_
        refine u0 (opL_int (z := .int .u64 (bOr .u64 (iShl .u64 (s4.1) (8)) (IntKind.u64.wrap (v7)))) rfl rfl rfl rfl rfl) ?_
        refine asn rfl rfl ?_
        refine rt (hL _ (hL6 _ ?_))
        refine tl fun L hL => ?_
        refine u0 (opL_add rfl rfl rfl rfl rfl) ?_
        refine mv rfl ?_
        refine rt (hL _ (hL4 _ _ h (Sub.nm [2, 11, 12, 13] [] rfl (by kernel_rfl))))
      · refine aw_exit (hL2 _ _ h (Sub.nm [2] [] rfl (by kernel_rfl)))
def W_operation_reader_word (a0 : T_operation_reader) (Q : (Int × T_operation_reader) → Prop) : Prop :=
 ∃ (v1 : Int × Int × Int), R_wire_DecodeWord (a0.fb) v1 ∧ ∃ (v3 : Bool × T_operation_reader), R_operation_reader_take a0 (v1.2.1) (v1.2.2) v3 ∧ (((!(v3.1)) = true → Q ((0), v3.2)) ∧ ((!(v3.1)) = false → Q ((v1.1), v3.2)))
def R_operation_reader_word (a0 : T_operation_reader) (r : Int × T_operation_reader) : Prop := W_operation_reader_word a0 fun x => r = x
theorem e_operation_reader_word {a0 : T_operation_reader} {Post : (Int × T_operation_reader) → Prop} (h : W_operation_reader_word a0 Post) : ∃ r, R_operation_reader_word a0 r ∧ Post r := (show GM (W_operation_reader_word a0) (W_operation_reader_word a0) from GM.ex fun v1 => GM.ex fun v3 => GM.cond (GM.ret _) (GM.ret _)) Post h
theorem c_operation_reader_word (a0 : T_operation_reader) (r : Int × T_operation_reader) (h : R_operation_reader_word a0 r) : Contract Try.prog 34 [.ref [.p (.l 1 (List.map (eI .u8) (a0.fb))), .p (.v (.bool (a0.fbad)))]] [.c (.p (.v (.int .u64 (r.1))))] [.p (.l 1 (List.map (eI .u8) (r.2.fb))), .p (.v (.bool (r.2.fbad)))] := by
  refine contractR tb Try.func34 rfl (by kernel_rfl) rfl rfl (Nat.le_of_ble_eq_true rfl) rfl ?_
  intro E
  unfold R_operation_reader_word W_operation_reader_word at h
  refine aw_Q (fun Q hQ => ?_)
  refine tk fun L hL => ?_
  refine asn rfl rfl ?_
  refine rt (hL _ ?_)
  refine tk fun L hL => ?_
  refine mv rfl ?_
  refine u0 (opL_nilCheck rfl rfl rfl) ?_
  refine u0 (opL_fieldp (T := tb) rfl rfl rfl rfl rfl rfl rfl rfl rfl) ?_
  refine u0 (opL_load_box (T := tb) rfl rfl rfl rfl rfl rfl) ?_
  obtain ⟨v1, hv1, h⟩ := h
  refine u0 (opL_call0 (c_wire_DecodeWord _ _ hv1) rfl rfl (.cons (.c (.p _)) .nil) rfl rfl rfl) ?_
  refine u0 (opL_move_t rfl rfl) ?_
  refine u0 (opL_extract_c rfl rfl rfl) ?_
  refine u0 (opL_extract_c rfl rfl rfl) ?_
  refine u0 (opL_extract_c rfl rfl rfl) ?_
  refine asn rfl rfl ?_
  refine asn rfl rfl ?_
  refine asn rfl rfl ?_
  refine rt (hL _ ?_)
  refine sk fun L2 hL2 => ?_
  refine tk fun L hL => ?_
  refine mv rfl ?_
  refine mv rfl ?_
  refine mv rfl ?_
  obtain ⟨v3, hv3, h⟩ := h
  refine ul (opL_callr (c_operation_reader_take _ _ _ _ hv3) rfl rfl rfl rfl rfl (.cons (.p _) (.cons (.p _) .nil)) (.cons (.c (.p _)) (.cons (.c (.p _)) .nil)) rfl rfl rfl rfl rfl) ?_
  refine u0 (opL_not rfl rfl rfl) ?_
  refine rt (hL _ ?_)
  refine cnd rfl h (fun h => ?_) fun h => ?_
  · refine tk fun L hL => ?_
    refine asn rfl rfl ?_
    refine rt (hL _ ?_)
    obtain rfl := h
    exact aw_ret (hQ _ _ ⟨.inr rfl, _, _, _, _, _, _, (.cons (.p rfl) .nil), (.cons (.c (.p _)) .nil), rfl, (.cons (.p _) (.cons (.p _) .nil)), rfl, rfl⟩)
  · refine aw_skip (hL2 _ ?_)
    refine tk fun L hL => ?_
    refine mv rfl ?_
    refine asn rfl rfl ?_
    refine rt (hL _ ?_)
    obtain rfl := h
    exact aw_ret (hQ _ _ ⟨.inr rfl, _, _, _, _, _, _, (.cons (.p rfl) .nil), (.cons (.c (.p _)) .nil), rfl, (.cons (.p _) (.cons (.p _) .nil)), rfl, rfl⟩)
def W_operation_Decode (a0 : (List Int)) (Q : (T_api_Op × Int) → Prop) : Prop :=
 ∃ (v1 : Int × (List Int) × Int × Int), R_wire_Unframe (a0) v1 ∧ (((((v1.2.2.2) != (0))) = true → Q ((T_api_Op.mk (0) (ByteArray.empty) (ByteArray.empty) ([] : (List ByteArray)) (T_api_Params.mk (0) (0) (0) (0)) ([] : (List T_api_Item)) ([] : (List Int)) (0) (0) (0) (0) (0) (0) (T_api_Query.mk (0) (ByteArray.empty) (0) (0) (0)) ([] : (List Int))), (v1.2.2.2))) ∧ ((((v1.2.2.2) != (0))) = false → ∃ (v3 : Int × T_operation_reader), R_operation_reader_number (T_operation_reader.mk (v1.2.1) (false))  v3 ∧ ∃ (v4 : ByteArray × T_operation_reader), R_operation_reader_text v3.2  v4 ∧ ∃ (v5 : ByteArray × T_operation_reader), R_operation_reader_text v4.2  v5 ∧ jn (fun (p6 : (List Int) × Bool × (List ByteArray)) => ∃ (v13 : Int × T_operation_reader), R_operation_reader_number (T_operation_reader.mk (p6.1) (p6.2.1))  v13 ∧ ∃ (v14 : Int × T_operation_reader), R_operation_reader_number v13.2  v14 ∧ ∃ (v15 : Int × T_operation_reader), R_operation_reader_number v14.2  v15 ∧ ∃ (v16 : Int × T_operation_reader), R_operation_reader_word v15.2  v16 ∧ jn (fun (p17 : (List Int) × Bool × (List ByteArray) × (List T_api_Item)) => ∃ (v25 : ByteArray × T_operation_reader), R_operation_reader_text (T_operation_reader.mk (p17.1) (p17.2.1))  v25 ∧ ((v25.1).size ≤ 140737488355328) ∧ ∃ (v27 : Int × T_operation_reader), R_operation_reader_number v25.2  v27 ∧ ∃ (v28 : Int × T_operation_reader), R_operation_reader_number v27.2  v28 ∧ ∃ (v29 : Int × T_operation_reader), R_operation_reader_number v28.2  v29 ∧ ∃ (v30 : Int × T_operation_reader), R_operation_reader_number v29.2  v30 ∧ ∃ (v31 : Int × T_operation_reader), R_operation_reader_number v30.2  v31 ∧ ∃ (v32 : Int × T_operation_reader), R_operation_reader_number v31.2  v32 ∧ ∃ (v33 : Int × T_operation_reader), R_operation_reader_number v32.2  v33 ∧ ∃ (v34 : ByteArray × T_operation_reader), R_operation_reader_text v33.2  v34 ∧ ∃ (v35 : Int × T_operation_reader), R_operation_reader_number v34.2  v35 ∧ ∃ (v36 : Int × T_operation_reader), R_operation_reader_number v35.2  v36 ∧ ∃ (v37 : Int × T_operation_reader), R_operation_reader_number v36.2  v37 ∧ ∃ (v38 : ByteArray × T_operation_reader), R_operation_reader_text v37.2  v38 ∧ ((v38.1).size ≤ 140737488355328) ∧ ∃ (v40 : (List Int) × Int), R_operation_Encode (T_api_Op.mk (v3.1) (v4.1) (v5.1) (p17.2.2.1) (T_api_Params.mk (v13.1) (v14.1) (v15.1) (v16.1)) (p17.2.2.2) (sI (v25.1)) (v27.1) (v28.1) (v29.1) (v30.1) (v31.1) (v32.1) (T_api_Query.mk (v33.1) (v34.1) (v35.1) (v36.1) (v37.1)) (sI (v38.1))) v40 ∧ ((((bif (bif (bif (bif ((v1.1) != (79)) then true else ((v1.2.2.1) != (((a0).length : Int)))) then true else v38.2.fbad) then true else ((v40.2) != (0))) then true else (!((strOfNums (v40.1)).toList == (strOfNums (a0)).toList)))) = true → Q ((T_api_Op.mk (0) (ByteArray.empty) (ByteArray.empty) ([] : (List ByteArray)) (T_api_Params.mk (0) (0) (0) (0)) ([] : (List T_api_Item)) ([] : (List Int)) (0) (0) (0) (0) (0) (0) (T_api_Query.mk (0) (ByteArray.empty) (0) (0) (0)) ([] : (List Int))), (2))) ∧ (((bif (bif (bif (bif ((v1.1) != (79)) then true else ((v1.2.2.1) != (((a0).length : Int)))) then true else v38.2.fbad) then true else ((v40.2) != (0))) then true else (!((strOfNums (v40.1)).toList == (strOfNums (a0)).toList)))) = false → Q ((T_api_Op.mk (v3.1) (v4.1) (v5.1) (p17.2.2.1) (T_api_Params.mk (v13.1) (v14.1) (v15.1) (v16.1)) (p17.2.2.2) (sI (v25.1)) (v27.1) (v28.1) (v29.1) (v30.1) (v31.1) (v32.1) (T_api_Query.mk (v33.1) (v34.1) (v35.1) (v36.1) (v37.1)) (sI (v38.1))), (0))))) (fun (J17 : (List Int) × Bool × (List ByteArray) × (List T_api_Item) → Prop) => ∃ (v18 : Int × T_operation_reader), R_operation_reader_number v16.2  v18 ∧ lp (fun (X19 : Int × (List Int) × Bool × (List ByteArray) × (List T_api_Item) → Prop) (s19 : Int × (List Int) × Bool × (List ByteArray) × (List T_api_Item)) => ((((bif decide ((s19.1) > (0)) then !(s19.2.2.1) else false)) = true → ∃ (v22 : ByteArray × T_operation_reader), R_operation_reader_text (T_operation_reader.mk (s19.2.1) (s19.2.2.1))  v22 ∧ ∃ (v23 : Int × T_operation_reader), R_operation_reader_number v22.2  v23 ∧ (((s19.2.2.2.2).length + ([(T_api_Item.mk (v22.1) (v23.1))]).length) * 24 ≤ 140737488355328) ∧ X19 ((IntKind.i64.wrap ((s19.1) - (1))), (v23.2.fb), (v23.2.fbad), (s19.2.2.2.1), ((s19.2.2.2.2) ++ ([(T_api_Item.mk (v22.1) (v23.1))])))) ∧ (((bif decide ((s19.1) > (0)) then !(s19.2.2.1) else false)) = false → J17 ((s19.2.1), (s19.2.2.1), (s19.2.2.2.1), (s19.2.2.2.2))))) ((v18.1), (v18.2.fb), (v18.2.fbad), (p6.2.2), ([] : (List T_api_Item))))) (fun (J6 : (List Int) × Bool × (List ByteArray) → Prop) => ∃ (v7 : Int × T_operation_reader), R_operation_reader_number v5.2  v7 ∧ lp (fun (X8 : Int × (List Int) × Bool × (List ByteArray) → Prop) (s8 : Int × (List Int) × Bool × (List ByteArray)) => ((((bif decide ((s8.1) > (0)) then !(s8.2.2.1) else false)) = true → ∃ (v11 : ByteArray × T_operation_reader), R_operation_reader_text (T_operation_reader.mk (s8.2.1) (s8.2.2.1))  v11 ∧ (((s8.2.2.2).length + ([(v11.1)]).length) * 16 ≤ 140737488355328) ∧ X8 ((IntKind.i64.wrap ((s8.1) - (1))), (v11.2.fb), (v11.2.fbad), ((s8.2.2.2) ++ ([(v11.1)])))) ∧ (((bif decide ((s8.1) > (0)) then !(s8.2.2.1) else false)) = false → J6 ((s8.2.1), (s8.2.2.1), (s8.2.2.2))))) ((v7.1), (v7.2.fb), (v7.2.fbad), ([] : (List ByteArray))))))
def R_operation_Decode (a0 : (List Int)) (r : T_api_Op × Int) : Prop := W_operation_Decode a0 fun x => r = x
theorem e_operation_Decode {a0 : (List Int)} {Post : (T_api_Op × Int) → Prop} (h : W_operation_Decode a0 Post) : ∃ r, R_operation_Decode a0 r ∧ Post r := (show GM (W_operation_Decode a0) (W_operation_Decode a0) from GM.ex fun v1 => GM.cond (GM.ret _) (GM.ex fun v3 => GM.ex fun v4 => GM.ex fun v5 => GM.join (fun p6 => GM.ex fun v13 => GM.ex fun v14 => GM.ex fun v15 => GM.ex fun v16 => GM.join (fun p17 => GM.ex fun v25 => GM.and (GM.ex fun v27 => GM.ex fun v28 => GM.ex fun v29 => GM.ex fun v30 => GM.ex fun v31 => GM.ex fun v32 => GM.ex fun v33 => GM.ex fun v34 => GM.ex fun v35 => GM.ex fun v36 => GM.ex fun v37 => GM.ex fun v38 => GM.and (GM.ex fun v40 => GM.cond (GM.ret _) (GM.ret _)))) (fun _ _ J17 => GM.ex fun v18 => GM.loop (fun X Y Q s19 X19 h => ⟨fun hc => (Exists.elim ((h).1 hc) fun v22 hv22 => ⟨v22, hv22.1, (Exists.elim (hv22.2) fun v23 hv23 => ⟨v23, hv23.1, ⟨(hv23.2).1, X19 _ ((hv23.2).2)⟩⟩)⟩), fun hc => (h).2 hc⟩) (fun _ _ X19 s19 => GM.cond (GM.ex fun v22 => GM.ex fun v23 => GM.and (X19 _)) (J17 _)))) (fun _ _ J6 => GM.ex fun v7 => GM.loop (fun X Y Q s8 X8 h => ⟨fun hc => (Exists.elim ((h).1 hc) fun v11 hv11 => ⟨v11, hv11.1, ⟨(hv11.2).1, X8 _ ((hv11.2).2)⟩⟩), fun hc => (h).2 hc⟩) (fun _ _ X8 s8 => GM.cond (GM.ex fun v11 => GM.and (X8 _)) (J6 _))))) Post h
theorem c_operation_Decode (a0 : (List Int)) (r : T_api_Op × Int) (h : R_operation_Decode a0 r) : Contract Try.prog 12 [.c (.l 1 (List.map (eI .u8) (a0)))] [.agg [.p (.v (.int .i64 (r.1.fKind))), .p (.v (.string (r.1.fName))), .p (.v (.string (r.1.fOther))), .own 1 (List.map eS (r.1.fNames)), .p (.v (.int .i64 (r.1.fParams.fKind))), .p (.v (.int .i64 (r.1.fParams.fSize))), .p (.v (.int .i64 (r.1.fParams.fDepth))), .p (.v (.int .u64 (r.1.fParams.fSeed))), .own 2 (List.map e_api_Item (r.1.fItems)), .p (.l 1 (List.map (eI .u8) (r.1.fCoins))), .p (.v (.int .i64 (r.1.fExpected))), .p (.v (.int .i64 (r.1.fSource))), .p (.v (.int .i64 (r.1.fHandle))), .p (.v (.int .i64 (r.1.fIndex))), .p (.v (.int .i64 (r.1.fCursor))), .p (.v (.int .i64 (r.1.fCount))), .p (.v (.int .i64 (r.1.fQuery.fKind))), .p (.v (.string (r.1.fQuery.fKey))), .p (.v (.int .i64 (r.1.fQuery.fCount))), .p (.v (.int .i64 (r.1.fQuery.fNum))), .p (.v (.int .i64 (r.1.fQuery.fDen))), .p (.l 1 (List.map (eI .u8) (r.1.fData)))], .c (.p (.v (.int .i64 (r.2))))] [] := by
  refine contract0 tb Try.func12 rfl (by kernel_rfl) rfl rfl (Nat.le_of_ble_eq_true rfl) rfl ?_
  intro E
  unfold R_operation_Decode W_operation_Decode at h
  refine aw_Q (fun Q hQ => ?_)
  refine tk fun L hL => ?_
  refine u1 (opL_alloc (T := tb) rfl rfl rfl) ?_
  refine asn rfl rfl ?_
  refine rt (hL _ ?_)
  refine tk fun L hL => ?_
  refine mv rfl ?_
  obtain ⟨v1, hv1, h⟩ := h
  refine ul (opL_call (c_wire_Unframe _ _ hv1) rfl rfl (.cons (.c (.p _)) .nil) rfl rfl rfl) ?_
  refine u0 (opL_move_t rfl rfl) ?_
  refine u0 (opL_extract_c rfl rfl rfl) ?_
  refine u0 (opL_extract_c rfl rfl rfl) ?_
  refine u0 (opL_extract_c rfl rfl rfl) ?_
  refine u0 (opL_extract_c rfl rfl rfl) ?_
  refine asn rfl rfl ?_
  refine asn rfl rfl ?_
  refine asn rfl rfl ?_
  refine asn rfl rfl ?_
  refine rt (hL _ ?_)
  refine sk fun L2 hL2 => ?_
  refine tk fun L hL => ?_
  refine mv rfl ?_
  refine u0 (opL_cmp (c := ((v1.2.2.2) != (0))) rfl rfl rfl rfl rfl) ?_
  refine rt (hL _ ?_)
  refine cnd rfl h (fun h => ?_) fun h => ?_
  · refine tk fun L hL => ?_
    refine u0 (opL_build_s (T := tb) rfl rfl rfl rfl rfl rfl rfl) ?_
    refine mv rfl ?_
    refine un (opL_st_a (T := tb) rfl rfl rfl rfl rfl rfl rfl rfl rfl) ?_
    refine asn rfl rfl ?_
    refine rt (hL _ ?_)
    obtain rfl := h
    exact aw_ret (hQ _ _ ⟨.inr rfl, _, _, _, (.cons (.cella rfl rfl rfl rfl rfl) (.cons (.p rfl) .nil)), (.cons (.agg (.cons (.p _) (.cons (.p _) (.cons (.p _) (.cons (.nilo _ (Nat.le_of_ble_eq_true rfl)) (.cons (.p _) (.cons (.p _) (.cons (.p _) (.cons (.p _) (.cons (.nilo _ (Nat.le_of_ble_eq_true rfl)) (.cons (.nil _) (.cons (.p _) (.cons (.p _) (.cons (.p _) (.cons (.p _) (.cons (.p _) (.cons (.p _) (.cons (.p _) (.cons (.p _) (.cons (.p _) (.cons (.p _) (.cons (.p _) (.cons (.nil _) .nil))))))))))))))))))))))) (.cons (.c (.p _)) .nil)), rfl, rfl⟩)
  · refine aw_skip (hL2 _ ?_)
    refine tk fun L hL => ?_
    refine mv rfl ?_
    refine u0 (opL_build_s (T := tb) rfl rfl rfl rfl rfl rfl rfl) ?_
    refine u1 (opL_box_a rfl rfl) ?_
    refine asn rfl rfl ?_
    refine rt (hL _ ?_)
    refine tk fun L hL => ?_
    refine mv rfl ?_
    obtain ⟨v3, hv3, h⟩ := h
    refine ul (opL_callr (c_operation_reader_number _  _ hv3) rfl rfl rfl rfl rfl (.cons (.fr rfl (dt_alln rfl)) (.cons (.p _) .nil)) .nil rfl rfl rfl rfl rfl) ?_
    refine mv rfl ?_
    obtain ⟨v4, hv4, h⟩ := h
    refine ul (opL_callr (c_operation_reader_text _  _ hv4) rfl rfl rfl rfl rfl (.cons (.p _) (.cons (.p _) .nil)) .nil rfl rfl rfl rfl rfl) ?_
    refine mv rfl ?_
    obtain ⟨v5, hv5, h⟩ := h
    refine ul (opL_callr (c_operation_reader_text _  _ hv5) rfl rfl rfl rfl rfl (.cons (.p _) (.cons (.p _) .nil)) .nil rfl rfl rfl rfl rfl) ?_
    refine u0 (opL_build_s (T := tb) rfl rfl rfl rfl rfl rfl rfl) ?_
    refine u1 (opL_alloc (T := tb) rfl rfl rfl) ?_
    refine un (opL_st_a (T := tb) rfl rfl rfl rfl rfl rfl rfl rfl rfl) ?_
    refine rt (hL _ ?_)
    refine aw_jn (fun (p6 : (List Int) × Bool × (List ByteArray)) => (⟨[(0, .c (.p (.l 1 (List.map (eI .u8) (a0))))), (2, .c (.ptr (2, 0) 0 0)), (4, .c (.p (.v (.int .u8 (v1.1))))), (6, .c (.p (.v (.int .i64 (v1.2.2.1))))), (8, .c (.ptr (27, 0) 0 0)), (9, .c (.ptr (9, 0) 0 0))], [((2, 0), some (.box ([.p (.v (.int .i64 (0))), .p (.v (.string (ByteArray.empty))), .p (.v (.string (ByteArray.empty))), .p (.v (.slice none 0 0)), .p (.v (.int .i64 (0))), .p (.v (.int .i64 (0))), .p (.v (.int .i64 (0))), .p (.v (.int .u64 (0))), .p (.v (.slice none 0 0)), .p (.v (.slice none 0 0)), .p (.v (.int .i64 (0))), .p (.v (.int .i64 (0))), .p (.v (.int .i64 (0))), .p (.v (.int .i64 (0))), .p (.v (.int .i64 (0))), .p (.v (.int .i64 (0))), .p (.v (.int .i64 (0))), .p (.v (.string (ByteArray.empty))), .p (.v (.int .i64 (0))), .p (.v (.int .i64 (0))), .p (.v (.int .i64 (0))), .p (.v (.slice none 0 0))]))), ((27, 0), some (.box ([.p (.l 1 (List.map (eI .u8) (p6.1))), .p (.v (.bool (p6.2.1)))]))), ((9, 2003), some (.row 1 (List.map eS (p6.2.2)) true)), ((9, 0), some (.box ([.p (.v (.int .i64 (v3.1))), .p (.v (.string (v4.1))), .p (.v (.string (v5.1))), .sl (9, 2003) 0 (List.map eS (p6.2.2)).length, .p (.v (.int .i64 (0))), .p (.v (.int .i64 (0))), .p (.v (.int .i64 (0))), .p (.v (.int .u64 (0))), .p (.v (.slice none 0 0)), .p (.v (.slice none 0 0)), .p (.v (.int .i64 (0))), .p (.v (.int .i64 (0))), .p (.v (.int .i64 (0))), .p (.v (.int .i64 (0))), .p (.v (.int .i64 (0))), .p (.v (.int .i64 (0))), .p (.v (.int .i64 (0))), .p (.v (.string (ByteArray.empty))), .p (.v (.int .i64 (0))), .p (.v (.int .i64 (0))), .p (.v (.int .i64 (0))), .p (.v (.slice none 0 0))])))]⟩ : St)) h (fun p6 h => ?_) (fun J6 L6 hL6 h => ?_)
    · refine tk fun L hL => ?_
      refine mv rfl ?_
      obtain ⟨v13, hv13, h⟩ := h
      refine ul (opL_callr (c_operation_reader_number _  _ hv13) rfl rfl rfl rfl rfl (.cons (.p _) (.cons (.p _) .nil)) .nil rfl rfl rfl rfl rfl) ?_
      refine mv rfl ?_
      obtain ⟨v14, hv14, h⟩ := h
      refine ul (opL_callr (c_operation_reader_number _  _ hv14) rfl rfl rfl rfl rfl (.cons (.p _) (.cons (.p _) .nil)) .nil rfl rfl rfl rfl rfl) ?_
      refine mv rfl ?_
      obtain ⟨v15, hv15, h⟩ := h
      refine ul (opL_callr (c_operation_reader_number _  _ hv15) rfl rfl rfl rfl rfl (.cons (.p _) (.cons (.p _) .nil)) .nil rfl rfl rfl rfl rfl) ?_
      refine u0 (opL_build_s (T := tb) rfl rfl rfl rfl rfl rfl rfl) ?_
      refine u0 (opL_fieldp (T := tb) rfl rfl rfl rfl rfl rfl rfl rfl rfl) ?_
      refine un (opL_st_a (T := tb) rfl rfl rfl rfl rfl rfl rfl rfl rfl) ?_
      refine rt (hL _ ?_)
      refine tk fun L hL => ?_
      refine mv rfl ?_
      obtain ⟨v16, hv16, h⟩ := h
      refine ul (opL_callr (c_operation_reader_word _  _ hv16) rfl rfl rfl rfl rfl (.cons (.p _) (.cons (.p _) .nil)) .nil rfl rfl rfl rfl rfl) ?_
      refine u0 (opL_fieldp (T := tb) rfl rfl rfl rfl rfl rfl rfl rfl rfl) ?_
      refine u0 (opL_fieldp (T := tb) rfl rfl rfl rfl rfl rfl rfl rfl rfl) ?_
      refine un (opL_st_c (T := tb) rfl rfl rfl rfl rfl rfl rfl rfl rfl rfl) ?_
      refine rt (hL _ ?_)
      refine aw_jn (fun (p17 : (List Int) × Bool × (List ByteArray) × (List T_api_Item)) => (⟨[(0, .c (.p (.l 1 (List.map (eI .u8) (a0))))), (2, .c (.ptr (2, 0) 0 0)), (4, .c (.p (.v (.int .u8 (v1.1))))), (6, .c (.p (.v (.int .i64 (v1.2.2.1))))), (8, .c (.ptr (27, 0) 0 0)), (9, .c (.ptr (9, 0) 0 0))], [((2, 0), some (.box ([.p (.v (.int .i64 (0))), .p (.v (.string (ByteArray.empty))), .p (.v (.string (ByteArray.empty))), .p (.v (.slice none 0 0)), .p (.v (.int .i64 (0))), .p (.v (.int .i64 (0))), .p (.v (.int .i64 (0))), .p (.v (.int .u64 (0))), .p (.v (.slice none 0 0)), .p (.v (.slice none 0 0)), .p (.v (.int .i64 (0))), .p (.v (.int .i64 (0))), .p (.v (.int .i64 (0))), .p (.v (.int .i64 (0))), .p (.v (.int .i64 (0))), .p (.v (.int .i64 (0))), .p (.v (.int .i64 (0))), .p (.v (.string (ByteArray.empty))), .p (.v (.int .i64 (0))), .p (.v (.int .i64 (0))), .p (.v (.int .i64 (0))), .p (.v (.slice none 0 0))]))), ((27, 0), some (.box ([.p (.l 1 (List.map (eI .u8) (p17.1))), .p (.v (.bool (p17.2.1)))]))), ((9, 2003), some (.row 1 (List.map eS (p17.2.2.1)) true)), ((9, 2008), some (.row 2 (List.map e_api_Item (p17.2.2.2)) true)), ((9, 0), some (.box ([.p (.v (.int .i64 (v3.1))), .p (.v (.string (v4.1))), .p (.v (.string (v5.1))), .sl (9, 2003) 0 (List.map eS (p17.2.2.1)).length, .p (.v (.int .i64 (v13.1))), .p (.v (.int .i64 (v14.1))), .p (.v (.int .i64 (v15.1))), .p (.v (.int .u64 (v16.1))), .sl (9, 2008) 0 (List.map e_api_Item (p17.2.2.2)).length, .p (.v (.slice none 0 0)), .p (.v (.int .i64 (0))), .p (.v (.int .i64 (0))), .p (.v (.int .i64 (0))), .p (.v (.int .i64 (0))), .p (.v (.int .i64 (0))), .p (.v (.int .i64 (0))), .p (.v (.int .i64 (0))), .p (.v (.string (ByteArray.empty))), .p (.v (.int .i64 (0))), .p (.v (.int .i64 (0))), .p (.v (.int .i64 (0))), .p (.v (.slice none 0 0))])))]⟩ : St)) h (fun p17 h => ?_) (fun J17 L17 hL17 h => ?_)
      · refine tk fun L hL => ?_
        refine mv rfl ?_
        obtain ⟨v25, hv25, h⟩ := h
        refine ul (opL_callr (c_operation_reader_text _  _ hv25) rfl rfl rfl rfl rfl (.cons (.p _) (.cons (.p _) .nil)) .nil rfl rfl rfl rfl rfl) ?_
        obtain ⟨hm26, h⟩ := h
        refine u0 (o_bytes (T := tb) hm26 rfl rfl rfl rfl rfl rfl rfl) ?_
        refine u0 (opL_fieldp (T := tb) rfl rfl rfl rfl rfl rfl rfl rfl rfl) ?_
        refine un (opL_st_c (T := tb) rfl rfl rfl rfl rfl rfl rfl rfl rfl rfl) ?_
        refine rt (hL _ ?_)
        refine tk fun L hL => ?_
        refine mv rfl ?_
        obtain ⟨v27, hv27, h⟩ := h
        refine ul (opL_callr (c_operation_reader_number _  _ hv27) rfl rfl rfl rfl rfl (.cons (.p _) (.cons (.p _) .nil)) .nil rfl rfl rfl rfl rfl) ?_
        refine mv rfl ?_
        obtain ⟨v28, hv28, h⟩ := h
        refine ul (opL_callr (c_operation_reader_number _  _ hv28) rfl rfl rfl rfl rfl (.cons (.p _) (.cons (.p _) .nil)) .nil rfl rfl rfl rfl rfl) ?_
        refine mv rfl ?_
        obtain ⟨v29, hv29, h⟩ := h
        refine ul (opL_callr (c_operation_reader_number _  _ hv29) rfl rfl rfl rfl rfl (.cons (.p _) (.cons (.p _) .nil)) .nil rfl rfl rfl rfl rfl) ?_
        refine u0 (opL_fieldp (T := tb) rfl rfl rfl rfl rfl rfl rfl rfl rfl) ?_
        refine un (opL_st_c (T := tb) rfl rfl rfl rfl rfl rfl rfl rfl rfl rfl) ?_
        refine u0 (opL_fieldp (T := tb) rfl rfl rfl rfl rfl rfl rfl rfl rfl) ?_
        refine un (opL_st_c (T := tb) rfl rfl rfl rfl rfl rfl rfl rfl rfl rfl) ?_
        refine u0 (opL_fieldp (T := tb) rfl rfl rfl rfl rfl rfl rfl rfl rfl) ?_
        refine un (opL_st_c (T := tb) rfl rfl rfl rfl rfl rfl rfl rfl rfl rfl) ?_
        refine rt (hL _ ?_)
        refine tk fun L hL => ?_
        refine mv rfl ?_
        obtain ⟨v30, hv30, h⟩ := h
        refine ul (opL_callr (c_operation_reader_number _  _ hv30) rfl rfl rfl rfl rfl (.cons (.p _) (.cons (.p _) .nil)) .nil rfl rfl rfl rfl rfl) ?_
        refine mv rfl ?_
        obtain ⟨v31, hv31, h⟩ := h
        refine ul (opL_callr (c_operation_reader_number _  _ hv31) rfl rfl rfl rfl rfl (.cons (.p _) (.cons (.p _) .nil)) .nil rfl rfl rfl rfl rfl) ?_
        refine mv rfl ?_
        obtain ⟨v32, hv32, h⟩ := h
        refine ul (opL_callr (c_operation_reader_number _  _ hv32) rfl rfl rfl rfl rfl (.cons (.p _) (.cons (.p _) .nil)) .nil rfl rfl rfl rfl rfl) ?_
        refine u0 (opL_fieldp (T := tb) rfl rfl rfl rfl rfl rfl rfl rfl rfl) ?_
        refine un (opL_st_c (T := tb) rfl rfl rfl rfl rfl rfl rfl rfl rfl rfl) ?_
        refine u0 (opL_fieldp (T := tb) rfl rfl rfl rfl rfl rfl rfl rfl rfl) ?_
        refine un (opL_st_c (T := tb) rfl rfl rfl rfl rfl rfl rfl rfl rfl rfl) ?_
        refine u0 (opL_fieldp (T := tb) rfl rfl rfl rfl rfl rfl rfl rfl rfl) ?_
        refine un (opL_st_c (T := tb) rfl rfl rfl rfl rfl rfl rfl rfl rfl rfl) ?_
        refine rt (hL _ ?_)
        refine tk fun L hL => ?_
        refine mv rfl ?_
        obtain ⟨v33, hv33, h⟩ := h
        refine ul (opL_callr (c_operation_reader_number _  _ hv33) rfl rfl rfl rfl rfl (.cons (.p _) (.cons (.p _) .nil)) .nil rfl rfl rfl rfl rfl) ?_
        refine mv rfl ?_
        obtain ⟨v34, hv34, h⟩ := h
        refine ul (opL_callr (c_operation_reader_text _  _ hv34) rfl rfl rfl rfl rfl (.cons (.p _) (.cons (.p _) .nil)) .nil rfl rfl rfl rfl rfl) ?_
        refine u0 (opL_build_s (T := tb) rfl rfl rfl rfl rfl rfl rfl) ?_
        refine u0 (opL_fieldp (T := tb) rfl rfl rfl rfl rfl rfl rfl rfl rfl) ?_
        refine un (opL_st_a (T := tb) rfl rfl rfl rfl rfl rfl rfl rfl rfl) ?_
        refine rt (hL _ ?_)
        refine aw_sub (st' := ⟨[(0, .c (.p (.l 1 (List.map (eI .u8) (a0))))), (2, .c (.ptr (2, 0) 0 0)), (4, .c (.p (.v (.int .u8 (v1.1))))), (6, .c (.p (.v (.int .i64 (v1.2.2.1))))), (8, .c (.ptr (27, 0) 0 0)), (9, .c (.ptr (9, 0) 0 0))], [((2, 0), some (.box ([.p (.v (.int .i64 (0))), .p (.v (.string (ByteArray.empty))), .p (.v (.string (ByteArray.empty))), .p (.v (.slice none 0 0)), .p (.v (.int .i64 (0))), .p (.v (.int .i64 (0))), .p (.v (.int .i64 (0))), .p (.v (.int .u64 (0))), .p (.v (.slice none 0 0)), .p (.v (.slice none 0 0)), .p (.v (.int .i64 (0))), .p (.v (.int .i64 (0))), .p (.v (.int .i64 (0))), .p (.v (.int .i64 (0))), .p (.v (.int .i64 (0))), .p (.v (.int .i64 (0))), .p (.v (.int .i64 (0))), .p (.v (.string (ByteArray.empty))), .p (.v (.int .i64 (0))), .p (.v (.int .i64 (0))), .p (.v (.int .i64 (0))), .p (.v (.slice none 0 0))]))), ((27, 0), some (.box (List.map CV.p (e_operation_reader v34.2)))), ((9, 0), some (.box ([.p (.v (.int .i64 (v3.1))), .p (.v (.string (v4.1))), .p (.v (.string (v5.1))), .sl (9, 2003) 0 (List.map eS (p17.2.2.1)).length, .p (.v (.int .i64 (v13.1))), .p (.v (.int .i64 (v14.1))), .p (.v (.int .i64 (v15.1))), .p (.v (.int .u64 (v16.1))), .sl (9, 2008) 0 (List.map e_api_Item (p17.2.2.2)).length, .p (.l 1 (List.map (eI .u8) (sI (v25.1)))), .p (.v (.int .i64 (v27.1))), .p (.v (.int .i64 (v28.1))), .p (.v (.int .i64 (v29.1))), .p (.v (.int .i64 (v30.1))), .p (.v (.int .i64 (v31.1))), .p (.v (.int .i64 (v32.1))), .p (.v (.int .i64 (v33.1))), .p (.v (.string (v34.1))), .p (.v (.int .i64 (0))), .p (.v (.int .i64 (0))), .p (.v (.int .i64 (0))), .p (.v (.slice none 0 0))]))), ((9, 2003), some (.row 1 (List.map eS (p17.2.2.1)) true)), ((9, 2008), some (.row 2 (List.map e_api_Item (p17.2.2.2)) true))]⟩) (Sub.nm [0, 2, 4, 6, 8, 9] [((2, 0), (2, 0)), ((27, 0), (27, 0)), ((9, 0), (9, 0)), ((9, 2003), (9, 2003)), ((9, 2008), (9, 2008))] rfl rfl) ?_
        refine tk fun L hL => ?_
        refine mv rfl ?_
        obtain ⟨v35, hv35, h⟩ := h
        refine ul (opL_callr (c_operation_reader_number _  _ hv35) rfl rfl rfl rfl rfl (.cons (.p _) (.cons (.p _) .nil)) .nil rfl rfl rfl rfl rfl) ?_
        refine mv rfl ?_
        obtain ⟨v36, hv36, h⟩ := h
        refine ul (opL_callr (c_operation_reader_number _  _ hv36) rfl rfl rfl rfl rfl (.cons (.p _) (.cons (.p _) .nil)) .nil rfl rfl rfl rfl rfl) ?_
        refine mv rfl ?_
        obtain ⟨v37, hv37, h⟩ := h
        refine ul (opL_callr (c_operation_reader_number _  _ hv37) rfl rfl rfl rfl rfl (.cons (.p _) (.cons (.p _) .nil)) .nil rfl rfl rfl rfl rfl) ?_
        refine u0 (opL_fieldp (T := tb) rfl rfl rfl rfl rfl rfl rfl rfl rfl) ?_
        refine u0 (opL_fieldp (T := tb) rfl rfl rfl rfl rfl rfl rfl rfl rfl) ?_
        refine un (opL_st_c (T := tb) rfl rfl rfl rfl rfl rfl rfl rfl rfl rfl) ?_
        refine u0 (opL_fieldp (T := tb) rfl rfl rfl rfl rfl rfl rfl rfl rfl) ?_
        refine u0 (opL_fieldp (T := tb) rfl rfl rfl rfl rfl rfl rfl rfl rfl) ?_
        refine un (opL_st_c (T := tb) rfl rfl rfl rfl rfl rfl rfl rfl rfl rfl) ?_
        refine u0 (opL_fieldp (T := tb) rfl rfl rfl rfl rfl rfl rfl rfl rfl) ?_
        refine u0 (opL_fieldp (T := tb) rfl rfl rfl rfl rfl rfl rfl rfl rfl) ?_
        refine un (opL_st_c (T := tb) rfl rfl rfl rfl rfl rfl rfl rfl rfl rfl) ?_
        refine rt (hL _ ?_)
        refine tk fun L hL => ?_
        refine mv rfl ?_
        obtain ⟨v38, hv38, h⟩ := h
        refine ul (opL_callr (c_operation_reader_text _  _ hv38) rfl rfl rfl rfl rfl (.cons (.p _) (.cons (.p _) .nil)) .nil rfl rfl rfl rfl rfl) ?_
        obtain ⟨hm39, h⟩ := h
        refine u0 (o_bytes (T := tb) hm39 rfl rfl rfl rfl rfl rfl rfl) ?_
        refine u0 (opL_fieldp (T := tb) rfl rfl rfl rfl rfl rfl rfl rfl rfl) ?_
        refine un (opL_st_c (T := tb) rfl rfl rfl rfl rfl rfl rfl rfl rfl rfl) ?_
        refine rt (hL _ ?_)
        refine tk fun L hL => ?_
        refine u0 (opL_loads_box (T := tb) rfl rfl rfl rfl rfl rfl rfl) ?_
        obtain ⟨v40, hv40, h⟩ := h
        refine ul (opL_callk (c_operation_Encode _ _ hv40) (noLl (NoLl.cons (.o (noL_map nl_eI)) (NoLl.cons (.p rfl) NoLl.nil))) rfl rfl (.cons (.agg (.cons (.p _) (.cons (.p _) (.cons (.p _) (.cons (.fr rfl (dt_alln rfl)) (.cons (.p _) (.cons (.p _) (.cons (.p _) (.cons (.p _) (.cons (.fr rfl (dt_alln rfl)) (.cons (.p _) (.cons (.p _) (.cons (.p _) (.cons (.p _) (.cons (.p _) (.cons (.p _) (.cons (.p _) (.cons (.p _) (.cons (.p _) (.cons (.p _) (.cons (.p _) (.cons (.p _) (.cons (.p _) .nil))))))))))))))))))))))) .nil) rfl rfl rfl) ?_
        refine u0 (opL_move_t rfl rfl) ?_
        refine u0 (opL_extract_c rfl rfl rfl) ?_
        refine u0 (opL_extract_c rfl rfl rfl) ?_
        refine asn rfl rfl ?_
        refine asn rfl rfl ?_
        refine rt (hL _ ?_)
        refine sk fun L41 hL41 => ?_
        refine tk fun L hL => ?_
        refine mv rfl ?_
        refine u0 (opL_cmp (c := ((v1.1) != (79))) rfl rfl rfl rfl rfl) ?_
        refine mv rfl ?_
        refine run_g rfl rfl beq_f (fun hg => opL_move_c rfl rfl) ?_
        refine run_g rfl rfl beq_f (fun hg => opL_move_c rfl rfl) ?_
        refine run_g rfl rfl beq_f (fun hg => o_len_l (T := tb) (gt_t hg) rfl rfl rfl) ?_
        refine run_g rfl rfl beq_f (fun hg => opL_cmp (c := ((v1.2.2.1) != (((a0).length : Int)))) (gt_t hg) (gt_t hg) rfl rfl rfl) ?_
        refine u0 (opL_pick_gr (v := .bool (true)) (w := .bool (((v1.2.2.1) != (((a0).length : Int))))) rfl rfl beq_f rfl bif_v rfl rfl rfl) ?_
        refine mv rfl ?_
        refine run_g rfl rfl beq_f (fun hg => opL_move_c rfl rfl) ?_
        refine run_g rfl rfl beq_f (fun hg => opL_nilCheck (gt_t hg) rfl rfl) ?_
        refine run_g rfl rfl beq_f (fun hg => opL_fieldp (T := tb) (gt_t hg) rfl rfl rfl rfl rfl rfl rfl rfl) ?_
        refine run_g rfl rfl beq_f (fun hg => opL_load_box (T := tb) (gt_t hg) rfl rfl rfl rfl rfl) ?_
        refine u0 (opL_pick_gr (v := .bool (true)) (w := .bool (v38.2.fbad)) rfl rfl beq_f rfl bif_v rfl rfl rfl) ?_
        refine mv rfl ?_
        refine run_g rfl rfl beq_f (fun hg => opL_move_c rfl rfl) ?_
        refine run_g rfl rfl beq_f (fun hg => opL_cmp (c := ((v40.2) != (0))) (gt_t hg) rfl rfl rfl rfl) ?_
        refine u0 (opL_pick_gr (v := .bool (true)) (w := .bool (((v40.2) != (0)))) rfl rfl beq_f rfl bif_v rfl rfl rfl) ?_
        refine mv rfl ?_
        refine run_g rfl rfl beq_f (fun hg => opL_move_c rfl rfl) ?_
        refine run_g rfl rfl beq_f (fun hg => o_string_sl (T := tb) (gt_t hg) rfl rfl rfl rfl rfl rfl rfl rfl rfl) ?_
        refine run_g rfl rfl beq_f (fun hg => opL_move_c rfl rfl) ?_
        refine run_g rfl rfl beq_f (fun hg => o_string_l (T := tb) (gt_t hg) rfl rfl rfl rfl rfl rfl rfl) ?_
        refine run_g rfl rfl beq_f (fun hg => opL_str (c := (!((strOfNums (v40.1)).toList == (strOfNums (a0)).toList))) (gt_t hg) (gt_t hg) rfl rfl rfl) ?_
        refine u0 (opL_pick_gr (v := .bool (true)) (w := .bool ((!((strOfNums (v40.1)).toList == (strOfNums (a0)).toList)))) rfl rfl beq_f rfl bif_v rfl rfl rfl) ?_
        refine rt (hL _ ?_)
        refine aw_sub (st' := ⟨[(2, .c (.ptr (2, 0) 0 0)), (9, .c (.ptr (9, 0) 0 0)), (165, .c (.p (.v (.bool ((bif (bif (bif (bif ((v1.1) != (79)) then true else ((v1.2.2.1) != (((a0).length : Int)))) then true else v38.2.fbad) then true else ((v40.2) != (0))) then true else (!((strOfNums (v40.1)).toList == (strOfNums (a0)).toList))))))))], [((2, 0), some (.box ([.p (.v (.int .i64 (0))), .p (.v (.string (ByteArray.empty))), .p (.v (.string (ByteArray.empty))), .p (.v (.slice none 0 0)), .p (.v (.int .i64 (0))), .p (.v (.int .i64 (0))), .p (.v (.int .i64 (0))), .p (.v (.int .u64 (0))), .p (.v (.slice none 0 0)), .p (.v (.slice none 0 0)), .p (.v (.int .i64 (0))), .p (.v (.int .i64 (0))), .p (.v (.int .i64 (0))), .p (.v (.int .i64 (0))), .p (.v (.int .i64 (0))), .p (.v (.int .i64 (0))), .p (.v (.int .i64 (0))), .p (.v (.string (ByteArray.empty))), .p (.v (.int .i64 (0))), .p (.v (.int .i64 (0))), .p (.v (.int .i64 (0))), .p (.v (.slice none 0 0))]))), ((9, 0), some (.box ([.p (.v (.int .i64 (v3.1))), .p (.v (.string (v4.1))), .p (.v (.string (v5.1))), .sl (9, 2003) 0 (List.map eS (p17.2.2.1)).length, .p (.v (.int .i64 (v13.1))), .p (.v (.int .i64 (v14.1))), .p (.v (.int .i64 (v15.1))), .p (.v (.int .u64 (v16.1))), .sl (9, 2008) 0 (List.map e_api_Item (p17.2.2.2)).length, .p (.l 1 (List.map (eI .u8) (sI (v25.1)))), .p (.v (.int .i64 (v27.1))), .p (.v (.int .i64 (v28.1))), .p (.v (.int .i64 (v29.1))), .p (.v (.int .i64 (v30.1))), .p (.v (.int .i64 (v31.1))), .p (.v (.int .i64 (v32.1))), .p (.v (.int .i64 (v33.1))), .p (.v (.string (v34.1))), .p (.v (.int .i64 (v35.1))), .p (.v (.int .i64 (v36.1))), .p (.v (.int .i64 (v37.1))), .p (.l 1 (List.map (eI .u8) (sI (v38.1))))]))), ((9, 2003), some (.row 1 (List.map eS (p17.2.2.1)) true)), ((9, 2008), some (.row 2 (List.map e_api_Item (p17.2.2.2)) true))]⟩) (Sub.nm [2, 9, 165] [((2, 0), (2, 0)), ((9, 0), (9, 0)), ((9, 2003), (9, 2003)), ((9, 2008), (9, 2008))] rfl rfl) ?_
        refine cnd rfl h (fun h => ?_) fun h => ?_
        · refine tk fun L hL => ?_
          refine u0 (opL_build_s (T := tb) rfl rfl rfl rfl rfl rfl rfl) ?_
          refine un (opL_st_a (T := tb) rfl rfl rfl rfl rfl rfl rfl rfl rfl) ?_
          refine asn rfl rfl ?_
          refine rt (hL _ ?_)
          obtain rfl := h
          exact aw_ret (hQ _ _ ⟨.inr rfl, _, _, _, (.cons (.cella rfl rfl rfl rfl rfl) (.cons (.p rfl) .nil)), (.cons (.agg (.cons (.p _) (.cons (.p _) (.cons (.p _) (.cons (.nilo _ (Nat.le_of_ble_eq_true rfl)) (.cons (.p _) (.cons (.p _) (.cons (.p _) (.cons (.p _) (.cons (.nilo _ (Nat.le_of_ble_eq_true rfl)) (.cons (.nil _) (.cons (.p _) (.cons (.p _) (.cons (.p _) (.cons (.p _) (.cons (.p _) (.cons (.p _) (.cons (.p _) (.cons (.p _) (.cons (.p _) (.cons (.p _) (.cons (.p _) (.cons (.nil _) .nil))))))))))))))))))))))) (.cons (.c (.p _)) .nil)), rfl, rfl⟩)
        · refine aw_skip (hL41 _ ?_)
          refine tk fun L hL => ?_
          refine u0 (opL_loads_box (T := tb) rfl rfl rfl rfl rfl rfl rfl) ?_
          refine un (opL_st_a (T := tb) rfl rfl rfl rfl rfl rfl rfl rfl rfl) ?_
          refine asn rfl rfl ?_
          refine rt (hL _ ?_)
          obtain rfl := h
          exact aw_ret (hQ _ _ ⟨.inr rfl, _, _, _, (.cons (.cella rfl rfl rfl rfl rfl) (.cons (.p rfl) .nil)), (.cons (.agg (.cons (.p _) (.cons (.p _) (.cons (.p _) (.cons (.own rfl rfl) (.cons (.p _) (.cons (.p _) (.cons (.p _) (.cons (.p _) (.cons (.own rfl rfl) (.cons (.p _) (.cons (.p _) (.cons (.p _) (.cons (.p _) (.cons (.p _) (.cons (.p _) (.cons (.p _) (.cons (.p _) (.cons (.p _) (.cons (.p _) (.cons (.p _) (.cons (.p _) (.cons (.p _) .nil))))))))))))))))))))))) (.cons (.c (.p _)) .nil)), rfl, rfl⟩)
      · refine tk fun L hL => ?_
        refine mv rfl ?_
        obtain ⟨v18, hv18, h⟩ := h
        refine ul (opL_callr (c_operation_reader_number _  _ hv18) rfl rfl rfl rfl rfl (.cons (.p _) (.cons (.p _) .nil)) .nil rfl rfl rfl rfl rfl) ?_
        refine asn rfl rfl ?_
        refine rt (hL _ ?_)
        refine aw_block ?_
        refine aw_lp (fun (s19 : Int × (List Int) × Bool × (List ByteArray) × (List T_api_Item)) => (⟨[(0, .c (.p (.l 1 (List.map (eI .u8) (a0))))), (2, .c (.ptr (2, 0) 0 0)), (4, .c (.p (.v (.int .u8 (v1.1))))), (6, .c (.p (.v (.int .i64 (v1.2.2.1))))), (8, .c (.ptr (27, 0) 0 0)), (9, .c (.ptr (9, 0) 0 0)), (11, .c (.p (.v (.int .i64 (s19.1)))))], [((2, 0), some (.box ([.p (.v (.int .i64 (0))), .p (.v (.string (ByteArray.empty))), .p (.v (.string (ByteArray.empty))), .p (.v (.slice none 0 0)), .p (.v (.int .i64 (0))), .p (.v (.int .i64 (0))), .p (.v (.int .i64 (0))), .p (.v (.int .u64 (0))), .p (.v (.slice none 0 0)), .p (.v (.slice none 0 0)), .p (.v (.int .i64 (0))), .p (.v (.int .i64 (0))), .p (.v (.int .i64 (0))), .p (.v (.int .i64 (0))), .p (.v (.int .i64 (0))), .p (.v (.int .i64 (0))), .p (.v (.int .i64 (0))), .p (.v (.string (ByteArray.empty))), .p (.v (.int .i64 (0))), .p (.v (.int .i64 (0))), .p (.v (.int .i64 (0))), .p (.v (.slice none 0 0))]))), ((27, 0), some (.box ([.p (.l 1 (List.map (eI .u8) (s19.2.1))), .p (.v (.bool (s19.2.2.1)))]))), ((9, 2003), some (.row 1 (List.map eS (s19.2.2.2.1)) true)), ((9, 2008), some (.row 2 (List.map e_api_Item (s19.2.2.2.2)) true)), ((9, 0), some (.box ([.p (.v (.int .i64 (v3.1))), .p (.v (.string (v4.1))), .p (.v (.string (v5.1))), .sl (9, 2003) 0 (List.map eS (s19.2.2.2.1)).length, .p (.v (.int .i64 (v13.1))), .p (.v (.int .i64 (v14.1))), .p (.v (.int .i64 (v15.1))), .p (.v (.int .u64 (v16.1))), .sl (9, 2008) 0 (List.map e_api_Item (s19.2.2.2.2)).length, .p (.v (.slice none 0 0)), .p (.v (.int .i64 (0))), .p (.v (.int .i64 (0))), .p (.v (.int .i64 (0))), .p (.v (.int .i64 (0))), .p (.v (.int .i64 (0))), .p (.v (.int .i64 (0))), .p (.v (.int .i64 (0))), .p (.v (.string (ByteArray.empty))), .p (.v (.int .i64 (0))), .p (.v (.int .i64 (0))), .p (.v (.int .i64 (0))), .p (.v (.slice none 0 0))])))]⟩ : St)) h ((Sub.blk (9, 2058) 2 rfl rfl rfl).trans ((Sub.cells (9, 0) rfl (.cons (.k _) (.cons (.k _) (.cons (.k _) (.cons (.k _) (.cons (.k _) (.cons (.k _) (.cons (.k _) (.cons (.k _) (.cons (.nilo (b := (9, 2058)) rfl) (.cons (.k _) (.cons (.k _) (.cons (.k _) (.cons (.k _) (.cons (.k _) (.cons (.k _) (.cons (.k _) (.cons (.k _) (.cons (.k _) (.cons (.k _) (.cons (.k _) (.cons (.k _) (.cons (.k _) .nil))))))))))))))))))))))).trans (Sub.nm [0, 2, 4, 6, 8, 9, 11] [((2, 0), (2, 0)), ((27, 0), (27, 0)), ((9, 2003), (9, 2003)), ((9, 2058), (9, 2008)), ((9, 0), (9, 0))] rfl (by kernel_rfl)))) (fun X19 L19 hL19 s19 h => ?_)
        refine sk fun L20 hL20 => ?_
        refine tk fun L hL => ?_
        refine mv rfl ?_
        refine u0 (opL_cmp (c := decide ((s19.1) > (0))) rfl rfl rfl rfl rfl) ?_
        refine mv rfl ?_
        refine run_g rfl rfl beq_t (fun hg => opL_move_c rfl rfl) ?_
        refine run_g rfl rfl beq_t (fun hg => opL_nilCheck (gt_t hg) rfl rfl) ?_
        refine run_g rfl rfl beq_t (fun hg => opL_fieldp (T := tb) (gt_t hg) rfl rfl rfl rfl rfl rfl rfl rfl) ?_
        refine run_g rfl rfl beq_t (fun hg => opL_load_box (T := tb) (gt_t hg) rfl rfl rfl rfl rfl) ?_
        refine run_g rfl rfl beq_t (fun hg => opL_not (gt_t hg) rfl rfl) ?_
        refine u0 (opL_pick_gl (v := .bool (!(s19.2.2.1))) (w := .bool (false)) rfl rfl beq_t rfl bif_v rfl rfl rfl) ?_
        refine rt (hL _ ?_)
        refine aw_sub (st' := ⟨[(0, .c (.p (.l 1 (List.map (eI .u8) (a0))))), (2, .c (.ptr (2, 0) 0 0)), (4, .c (.p (.v (.int .u8 (v1.1))))), (6, .c (.p (.v (.int .i64 (v1.2.2.1))))), (8, .c (.ptr (27, 0) 0 0)), (9, .c (.ptr (9, 0) 0 0)), (11, .c (.p (.v (.int .i64 (s19.1))))), (77, .c (.p (.v (.bool ((bif decide ((s19.1) > (0)) then !(s19.2.2.1) else false))))))], [((2, 0), some (.box ([.p (.v (.int .i64 (0))), .p (.v (.string (ByteArray.empty))), .p (.v (.string (ByteArray.empty))), .p (.v (.slice none 0 0)), .p (.v (.int .i64 (0))), .p (.v (.int .i64 (0))), .p (.v (.int .i64 (0))), .p (.v (.int .u64 (0))), .p (.v (.slice none 0 0)), .p (.v (.slice none 0 0)), .p (.v (.int .i64 (0))), .p (.v (.int .i64 (0))), .p (.v (.int .i64 (0))), .p (.v (.int .i64 (0))), .p (.v (.int .i64 (0))), .p (.v (.int .i64 (0))), .p (.v (.int .i64 (0))), .p (.v (.string (ByteArray.empty))), .p (.v (.int .i64 (0))), .p (.v (.int .i64 (0))), .p (.v (.int .i64 (0))), .p (.v (.slice none 0 0))]))), ((27, 0), some (.box ([.p (.l 1 (List.map (eI .u8) (s19.2.1))), .p (.v (.bool (s19.2.2.1)))]))), ((9, 0), some (.box ([.p (.v (.int .i64 (v3.1))), .p (.v (.string (v4.1))), .p (.v (.string (v5.1))), .sl (9, 2003) 0 (List.map eS (s19.2.2.2.1)).length, .p (.v (.int .i64 (v13.1))), .p (.v (.int .i64 (v14.1))), .p (.v (.int .i64 (v15.1))), .p (.v (.int .u64 (v16.1))), .sl (9, 2008) 0 (List.map e_api_Item (s19.2.2.2.2)).length, .p (.v (.slice none 0 0)), .p (.v (.int .i64 (0))), .p (.v (.int .i64 (0))), .p (.v (.int .i64 (0))), .p (.v (.int .i64 (0))), .p (.v (.int .i64 (0))), .p (.v (.int .i64 (0))), .p (.v (.int .i64 (0))), .p (.v (.string (ByteArray.empty))), .p (.v (.int .i64 (0))), .p (.v (.int .i64 (0))), .p (.v (.int .i64 (0))), .p (.v (.slice none 0 0))]))), ((9, 2003), some (.row 1 (List.map eS (s19.2.2.2.1)) true)), ((9, 2008), some (.row 2 (List.map e_api_Item (s19.2.2.2.2)) true))]⟩) (Sub.nm [0, 2, 4, 6, 8, 9, 11, 77] [((2, 0), (2, 0)), ((27, 0), (27, 0)), ((9, 0), (9, 0)), ((9, 2003), (9, 2003)), ((9, 2008), (9, 2008))] rfl rfl) ?_
        refine cnd rfl h (fun h => ?_) fun h => ?_
        · refine aw_skip (hL20 _ ?_)
          refine sk fun L21 hL21 => ?_
          refine aw_block ?_
          refine tk fun L hL => ?_
          refine mv rfl ?_
          obtain ⟨v22, hv22, h⟩ := h
          refine ul (opL_callr (c_operation_reader_text _  _ hv22) rfl rfl rfl rfl rfl (.cons (.p _) (.cons (.p _) .nil)) .nil rfl rfl rfl rfl rfl) ?_
          refine u0 (opL_build_s (T := tb) rfl rfl rfl rfl rfl rfl rfl) ?_
          refine u1 (opL_alloc (T := tb) rfl rfl rfl) ?_
          refine un (opL_st_a (T := tb) rfl rfl rfl rfl rfl rfl rfl rfl rfl) ?_
          refine rt (hL _ ?_)
          refine tk fun L hL => ?_
          refine mv rfl ?_
          obtain ⟨v23, hv23, h⟩ := h
          refine ul (opL_callr (c_operation_reader_number _  _ hv23) rfl rfl rfl rfl rfl (.cons (.p _) (.cons (.p _) .nil)) .nil rfl rfl rfl rfl rfl) ?_
          refine u0 (opL_fieldp (T := tb) rfl rfl rfl rfl rfl rfl rfl rfl rfl) ?_
          refine un (opL_st_c (T := tb) rfl rfl rfl rfl rfl rfl rfl rfl rfl rfl) ?_
          refine rt (hL _ ?_)
          refine tl fun L hL => ?_
          refine u0 (opL_fieldp (T := tb) rfl rfl rfl rfl rfl rfl rfl rfl rfl) ?_
          refine u0 (opL_load_box (T := tb) rfl rfl rfl rfl rfl rfl) ?_
          refine u0 (opL_loads_box (T := tb) rfl rfl rfl rfl rfl rfl rfl) ?_
          refine ul (opL_build_sl (T := tb) (rows := List.map e_api_Item [(T_api_Item.mk (v22.1) (v23.1))]) rfl rfl rfl rfl rfl rfl rfl rfl rfl rfl rfl rfl rfl) ?_
          obtain ⟨hm24, h⟩ := h
          refine ul (o_app_sl (T := tb) (f := e_api_Item) (L := s19.2.2.2.2) (L' := [(T_api_Item.mk (v22.1) (v23.1))]) hm24 rfl rfl rfl rfl rfl rfl rfl rfl rfl rfl rfl (srcT_sl (T := tb) mem_app rfl rfl rfl rfl rfl rfl)) ?_
          refine u0 (opL_fieldp (T := tb) rfl rfl rfl rfl rfl rfl rfl rfl rfl) ?_
          refine un (opL_st_c (T := tb) rfl rfl rfl rfl rfl rfl rfl rfl rfl rfl) ?_
          refine rt (hL _ (hL21 _ ?_))
          refine tl fun L hL => ?_
          refine mv rfl ?_
          refine u0 (opL_sub rfl rfl rfl rfl rfl) ?_
          refine asn rfl rfl ?_
          refine rt (hL _ (hL19 _ _ h (Sub.nm [0, 2, 4, 6, 8, 9, 11] [((2, 0), (2, 0)), ((27, 0), (27, 0)), ((9, 2003), (9, 2003)), ((90, 0), (9, 2008)), ((9, 0), (9, 0))] rfl (by kernel_rfl))))
        · refine aw_exit (hL17 _ _ h (Sub.nm [0, 2, 4, 6, 8, 9] [((2, 0), (2, 0)), ((27, 0), (27, 0)), ((9, 2003), (9, 2003)), ((9, 2008), (9, 2008)), ((9, 0), (9, 0))] rfl (by kernel_rfl)))
    · refine tk fun L hL => ?_
      refine mv rfl ?_
      obtain ⟨v7, hv7, h⟩ := h
      refine ul (opL_callr (c_operation_reader_number _  _ hv7) rfl rfl rfl rfl rfl (.cons (.p _) (.cons (.p _) .nil)) .nil rfl rfl rfl rfl rfl) ?_
      refine asn rfl rfl ?_
      refine rt (hL _ ?_)
      refine aw_sub (st' := ⟨[(0, .c (.p (.l 1 (List.map (eI .u8) (a0))))), (2, .c (.ptr (2, 0) 0 0)), (4, .c (.p (.v (.int .u8 (v1.1))))), (6, .c (.p (.v (.int .i64 (v1.2.2.1))))), (8, .c (.ptr (27, 0) 0 0)), (9, .c (.ptr (9, 0) 0 0)), (10, .c (.p (.v (.int .i64 (v7.1)))))], [((2, 0), some (.box ([.p (.v (.int .i64 (0))), .p (.v (.string (ByteArray.empty))), .p (.v (.string (ByteArray.empty))), .p (.v (.slice none 0 0)), .p (.v (.int .i64 (0))), .p (.v (.int .i64 (0))), .p (.v (.int .i64 (0))), .p (.v (.int .u64 (0))), .p (.v (.slice none 0 0)), .p (.v (.slice none 0 0)), .p (.v (.int .i64 (0))), .p (.v (.int .i64 (0))), .p (.v (.int .i64 (0))), .p (.v (.int .i64 (0))), .p (.v (.int .i64 (0))), .p (.v (.int .i64 (0))), .p (.v (.int .i64 (0))), .p (.v (.string (ByteArray.empty))), .p (.v (.int .i64 (0))), .p (.v (.int .i64 (0))), .p (.v (.int .i64 (0))), .p (.v (.slice none 0 0))]))), ((27, 0), some (.box (List.map CV.p (e_operation_reader v7.2)))), ((9, 0), some (.box ([.p (.v (.int .i64 (v3.1))), .p (.v (.string (v4.1))), .p (.v (.string (v5.1))), .p (.v (.slice none 0 0)), .p (.v (.int .i64 (0))), .p (.v (.int .i64 (0))), .p (.v (.int .i64 (0))), .p (.v (.int .u64 (0))), .p (.v (.slice none 0 0)), .p (.v (.slice none 0 0)), .p (.v (.int .i64 (0))), .p (.v (.int .i64 (0))), .p (.v (.int .i64 (0))), .p (.v (.int .i64 (0))), .p (.v (.int .i64 (0))), .p (.v (.int .i64 (0))), .p (.v (.int .i64 (0))), .p (.v (.string (ByteArray.empty))), .p (.v (.int .i64 (0))), .p (.v (.int .i64 (0))), .p (.v (.int .i64 (0))), .p (.v (.slice none 0 0))])))]⟩) (Sub.nm [0, 2, 4, 6, 8, 9, 10] [((2, 0), (2, 0)), ((27, 0), (27, 0)), ((9, 0), (9, 0))] rfl rfl) ?_
      refine aw_block ?_
      refine aw_lp (fun (s8 : Int × (List Int) × Bool × (List ByteArray)) => (⟨[(0, .c (.p (.l 1 (List.map (eI .u8) (a0))))), (2, .c (.ptr (2, 0) 0 0)), (4, .c (.p (.v (.int .u8 (v1.1))))), (6, .c (.p (.v (.int .i64 (v1.2.2.1))))), (8, .c (.ptr (27, 0) 0 0)), (9, .c (.ptr (9, 0) 0 0)), (10, .c (.p (.v (.int .i64 (s8.1)))))], [((2, 0), some (.box ([.p (.v (.int .i64 (0))), .p (.v (.string (ByteArray.empty))), .p (.v (.string (ByteArray.empty))), .p (.v (.slice none 0 0)), .p (.v (.int .i64 (0))), .p (.v (.int .i64 (0))), .p (.v (.int .i64 (0))), .p (.v (.int .u64 (0))), .p (.v (.slice none 0 0)), .p (.v (.slice none 0 0)), .p (.v (.int .i64 (0))), .p (.v (.int .i64 (0))), .p (.v (.int .i64 (0))), .p (.v (.int .i64 (0))), .p (.v (.int .i64 (0))), .p (.v (.int .i64 (0))), .p (.v (.int .i64 (0))), .p (.v (.string (ByteArray.empty))), .p (.v (.int .i64 (0))), .p (.v (.int .i64 (0))), .p (.v (.int .i64 (0))), .p (.v (.slice none 0 0))]))), ((27, 0), some (.box ([.p (.l 1 (List.map (eI .u8) (s8.2.1))), .p (.v (.bool (s8.2.2.1)))]))), ((9, 2003), some (.row 1 (List.map eS (s8.2.2.2)) true)), ((9, 0), some (.box ([.p (.v (.int .i64 (v3.1))), .p (.v (.string (v4.1))), .p (.v (.string (v5.1))), .sl (9, 2003) 0 (List.map eS (s8.2.2.2)).length, .p (.v (.int .i64 (0))), .p (.v (.int .i64 (0))), .p (.v (.int .i64 (0))), .p (.v (.int .u64 (0))), .p (.v (.slice none 0 0)), .p (.v (.slice none 0 0)), .p (.v (.int .i64 (0))), .p (.v (.int .i64 (0))), .p (.v (.int .i64 (0))), .p (.v (.int .i64 (0))), .p (.v (.int .i64 (0))), .p (.v (.int .i64 (0))), .p (.v (.int .i64 (0))), .p (.v (.string (ByteArray.empty))), .p (.v (.int .i64 (0))), .p (.v (.int .i64 (0))), .p (.v (.int .i64 (0))), .p (.v (.slice none 0 0))])))]⟩ : St)) h ((Sub.blk (9, 2053) 1 rfl rfl rfl).trans ((Sub.cells (9, 0) rfl (.cons (.k _) (.cons (.k _) (.cons (.k _) (.cons (.nilo (b := (9, 2053)) rfl) (.cons (.k _) (.cons (.k _) (.cons (.k _) (.cons (.k _) (.cons (.k _) (.cons (.k _) (.cons (.k _) (.cons (.k _) (.cons (.k _) (.cons (.k _) (.cons (.k _) (.cons (.k _) (.cons (.k _) (.cons (.k _) (.cons (.k _) (.cons (.k _) (.cons (.k _) (.cons (.k _) .nil))))))))))))))))))))))).trans (Sub.nm [0, 2, 4, 6, 8, 9, 10] [((2, 0), (2, 0)), ((27, 0), (27, 0)), ((9, 2053), (9, 2003)), ((9, 0), (9, 0))] rfl (by kernel_rfl)))) (fun X8 L8 hL8 s8 h => ?_)
      refine sk fun L9 hL9 => ?_
      refine tk fun L hL => ?_
      refine mv rfl ?_
      refine u0 (opL_cmp (c := decide ((s8.1) > (0))) rfl rfl rfl rfl rfl) ?_
      refine mv rfl ?_
      refine run_g rfl rfl beq_t (fun hg => opL_move_c rfl rfl) ?_
      refine run_g rfl rfl beq_t (fun hg => opL_nilCheck (gt_t hg) rfl rfl) ?_
      refine run_g rfl rfl beq_t (fun hg => opL_fieldp (T := tb) (gt_t hg) rfl rfl rfl rfl rfl rfl rfl rfl) ?_
      refine run_g rfl rfl beq_t (fun hg => opL_load_box (T := tb) (gt_t hg) rfl rfl rfl rfl rfl) ?_
      refine run_g rfl rfl beq_t (fun hg => opL_not (gt_t hg) rfl rfl) ?_
      refine u0 (opL_pick_gl (v := .bool (!(s8.2.2.1))) (w := .bool (false)) rfl rfl beq_t rfl bif_v rfl rfl rfl) ?_
      refine rt (hL _ ?_)
      refine aw_sub (st' := ⟨[(0, .c (.p (.l 1 (List.map (eI .u8) (a0))))), (2, .c (.ptr (2, 0) 0 0)), (4, .c (.p (.v (.int .u8 (v1.1))))), (6, .c (.p (.v (.int .i64 (v1.2.2.1))))), (8, .c (.ptr (27, 0) 0 0)), (9, .c (.ptr (9, 0) 0 0)), (10, .c (.p (.v (.int .i64 (s8.1))))), (45, .c (.p (.v (.bool ((bif decide ((s8.1) > (0)) then !(s8.2.2.1) else false))))))], [((2, 0), some (.box ([.p (.v (.int .i64 (0))), .p (.v (.string (ByteArray.empty))), .p (.v (.string (ByteArray.empty))), .p (.v (.slice none 0 0)), .p (.v (.int .i64 (0))), .p (.v (.int .i64 (0))), .p (.v (.int .i64 (0))), .p (.v (.int .u64 (0))), .p (.v (.slice none 0 0)), .p (.v (.slice none 0 0)), .p (.v (.int .i64 (0))), .p (.v (.int .i64 (0))), .p (.v (.int .i64 (0))), .p (.v (.int .i64 (0))), .p (.v (.int .i64 (0))), .p (.v (.int .i64 (0))), .p (.v (.int .i64 (0))), .p (.v (.string (ByteArray.empty))), .p (.v (.int .i64 (0))), .p (.v (.int .i64 (0))), .p (.v (.int .i64 (0))), .p (.v (.slice none 0 0))]))), ((27, 0), some (.box ([.p (.l 1 (List.map (eI .u8) (s8.2.1))), .p (.v (.bool (s8.2.2.1)))]))), ((9, 0), some (.box ([.p (.v (.int .i64 (v3.1))), .p (.v (.string (v4.1))), .p (.v (.string (v5.1))), .sl (9, 2003) 0 (List.map eS (s8.2.2.2)).length, .p (.v (.int .i64 (0))), .p (.v (.int .i64 (0))), .p (.v (.int .i64 (0))), .p (.v (.int .u64 (0))), .p (.v (.slice none 0 0)), .p (.v (.slice none 0 0)), .p (.v (.int .i64 (0))), .p (.v (.int .i64 (0))), .p (.v (.int .i64 (0))), .p (.v (.int .i64 (0))), .p (.v (.int .i64 (0))), .p (.v (.int .i64 (0))), .p (.v (.int .i64 (0))), .p (.v (.string (ByteArray.empty))), .p (.v (.int .i64 (0))), .p (.v (.int .i64 (0))), .p (.v (.int .i64 (0))), .p (.v (.slice none 0 0))]))), ((9, 2003), some (.row 1 (List.map eS (s8.2.2.2)) true))]⟩) (Sub.nm [0, 2, 4, 6, 8, 9, 10, 45] [((2, 0), (2, 0)), ((27, 0), (27, 0)), ((9, 0), (9, 0)), ((9, 2003), (9, 2003))] rfl rfl) ?_
      refine cnd rfl h (fun h => ?_) fun h => ?_
      · refine aw_skip (hL9 _ ?_)
        refine sk fun L10 hL10 => ?_
        refine aw_block ?_
        refine dl mixed (fun L hL => ?_)
        refine u0 (opL_fieldp (T := tb) rfl rfl rfl rfl rfl rfl rfl rfl rfl) ?_
        refine u0 (opL_load_box (T := tb) rfl rfl rfl rfl rfl rfl) ?_
        refine mv rfl ?_
        obtain ⟨v11, hv11, h⟩ := h
        refine ul (opL_callr (c_operation_reader_text _  _ hv11) rfl rfl rfl rfl rfl (.cons (.p _) (.cons (.p _) .nil)) .nil rfl rfl rfl rfl rfl) ?_
        refine ul (opL_build_sl (T := tb) (rows := List.map eS [(v11.1)]) rfl rfl rfl rfl rfl rfl rfl rfl rfl rfl rfl rfl rfl) ?_
        obtain ⟨hm12, h⟩ := h
        refine ul (o_app_sl (T := tb) (f := eS) (L := s8.2.2.2) (L' := [(v11.1)]) hm12 rfl rfl rfl rfl rfl rfl rfl rfl rfl rfl rfl (srcT_sl (T := tb) mem_app rfl rfl rfl rfl rfl rfl)) ?_
        refine u0 (opL_fieldp (T := tb) rfl rfl rfl rfl rfl rfl rfl rfl rfl) ?_
        refine un (opL_st_c (T := tb) rfl rfl rfl rfl rfl rfl rfl rfl rfl rfl) ?_
        refine rd (hL _ (hL10 _ ?_))
        refine tl fun L hL => ?_
        refine mv rfl ?_
        refine u0 (opL_sub rfl rfl rfl rfl rfl) ?_
        refine asn rfl rfl ?_
        refine rt (hL _ (hL8 _ _ h (Sub.nm [0, 2, 4, 6, 8, 9, 10] [((2, 0), (2, 0)), ((27, 0), (27, 0)), ((53, 0), (9, 2003)), ((9, 0), (9, 0))] rfl (by kernel_rfl))))
      · refine aw_exit (hL6 _ _ h (Sub.nm [0, 2, 4, 6, 8, 9] [((2, 0), (2, 0)), ((27, 0), (27, 0)), ((9, 2003), (9, 2003)), ((9, 0), (9, 0))] rfl (by kernel_rfl)))
end Go.Proofs.Ythlaenafkihjiaa
