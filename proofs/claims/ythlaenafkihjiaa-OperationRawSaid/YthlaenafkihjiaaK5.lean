/- Parts of the proof, laid together. No condition. -/
import Derived.Test.YthlaenafkihjiaaK4
import Derived.Laws.Bits64
/- What functions compute, and that they do. No condition. -/
namespace Go.Proofs.Ythlaenafkihjiaa
open Go.RowKit
set_option linter.unusedVariables false
set_option linter.unusedSimpArgs false
set_option maxRecDepth 100000
set_option maxHeartbeats 4000000
def W_law22_known  (Q : Bool → Prop) : Prop :=
 ∃ (v1 : (List Int) × Int), R_operation_Encode (T_api_Op.mk (4) (ByteArray.empty) (ByteArray.empty) ([] : (List ByteArray)) (T_api_Params.mk (0) (0) (0) (0)) ([] : (List T_api_Item)) ([] : (List Int)) (0) (0) (0) (0) (0) (0) (T_api_Query.mk (0) (ByteArray.empty) (0) (0) (0)) ([] : (List Int))) v1 ∧ ∃ (v2 : T_api_Op × Int), R_operation_Decode (v1.1) v2 ∧ ∃ (v3 : Int), (((bif (bif ((v1.2) == (0)) then ((v2.2) == (0)) else false) then ((v2.1.fKind) == (4)) else false)) = true → R_operation_Validate (T_api_Op.mk (4) ((⟨#[97]⟩ : ByteArray)) (ByteArray.empty) ([] : (List ByteArray)) (T_api_Params.mk (0) (0) (0) (0)) ([] : (List T_api_Item)) ([] : (List Int)) (0) (0) (0) (0) (0) (0) (T_api_Query.mk (0) (ByteArray.empty) (0) (0) (0)) ([] : (List Int))) v3) ∧ ∃ (v4 : Bool), (((bif (bif (bif ((v1.2) == (0)) then ((v2.2) == (0)) else false) then ((v2.1.fKind) == (4)) else false) then ((v3) == (18)) else false)) = true → R_operation_Single (4) v4) ∧ ∃ (v5 : Bool), (((bif (bif (bif (bif ((v1.2) == (0)) then ((v2.2) == (0)) else false) then ((v2.1.fKind) == (4)) else false) then ((v3) == (18)) else false) then v4 else false)) = true → R_operation_Single (6) v5) ∧ Q (((bif (bif (bif (bif (bif ((v1.2) == (0)) then ((v2.2) == (0)) else false) then ((v2.1.fKind) == (4)) else false) then ((v3) == (18)) else false) then v4 else false) then !(v5) else false)))
def R_law22_known  (r : Bool) : Prop := W_law22_known  fun x => r = x
theorem e_law22_known  {Post : Bool → Prop} (h : W_law22_known  Post) : ∃ r, R_law22_known  r ∧ Post r := (show GM (W_law22_known ) (W_law22_known ) from GM.ex fun v1 => GM.ex fun v2 => GM.ex fun v3 => GM.ex fun v4 => GM.ex fun v5 => GM.ret _) Post h
theorem c_law22_known  (r : Bool) (h : R_law22_known  r) : Contract Try.prog 5 [] [.c (.p (.v (.bool (r))))] [] := by
  refine contract0 tb Try.func5 rfl (by kernel_rfl) rfl rfl (Nat.le_of_ble_eq_true rfl) rfl ?_
  intro E
  unfold R_law22_known W_law22_known at h
  refine aw_Q (fun Q hQ => ?_)
  refine tk fun L hL => ?_
  refine asn rfl rfl ?_
  refine rt (hL _ ?_)
  refine tk fun L hL => ?_
  refine u0 (opL_build_s (T := tb) rfl rfl rfl rfl rfl rfl rfl) ?_
  obtain ⟨v1, hv1, h⟩ := h
  refine ul (opL_call (c_operation_Encode _ _ hv1) rfl rfl (.cons (.agg (.cons (.p _) (.cons (.p _) (.cons (.p _) (.cons (.nil _) (.cons (.p _) (.cons (.p _) (.cons (.p _) (.cons (.p _) (.cons (.nil _) (.cons (.nil _) (.cons (.p _) (.cons (.p _) (.cons (.p _) (.cons (.p _) (.cons (.p _) (.cons (.p _) (.cons (.p _) (.cons (.p _) (.cons (.p _) (.cons (.p _) (.cons (.p _) (.cons (.nil _) .nil))))))))))))))))))))))) .nil) rfl rfl rfl) ?_
  refine u0 (opL_move_t rfl rfl) ?_
  refine u0 (opL_extract_c rfl rfl rfl) ?_
  refine u0 (opL_extract_c rfl rfl rfl) ?_
  refine asn rfl rfl ?_
  refine asn rfl rfl ?_
  refine rt (hL _ ?_)
  refine tk fun L hL => ?_
  refine mv rfl ?_
  obtain ⟨v2, hv2, h⟩ := h
  refine ul (opL_call (c_operation_Decode _ _ hv2) rfl rfl (.cons (.c (.fr rfl (dt_alln rfl))) .nil) rfl rfl rfl) ?_
  refine u0 (opL_move_t rfl rfl) ?_
  refine u0 (opL_extract_a rfl rfl rfl) ?_
  refine u0 (opL_extract_c rfl rfl rfl) ?_
  refine u1 (opL_alloc (T := tb) rfl rfl rfl) ?_
  refine un (opL_st_a (T := tb) rfl rfl rfl rfl rfl rfl rfl rfl rfl) ?_
  refine asn rfl rfl ?_
  refine rt (hL _ ?_)
  refine tk fun L hL => ?_
  refine mv rfl ?_
  refine u0 (opL_cmp (c := ((v1.2) == (0))) rfl rfl rfl rfl rfl) ?_
  refine mv rfl ?_
  refine run_g rfl rfl beq_t (fun hg => opL_move_c rfl rfl) ?_
  refine run_g rfl rfl beq_t (fun hg => opL_cmp (c := ((v2.2) == (0))) (gt_t hg) rfl rfl rfl rfl) ?_
  refine u0 (opL_pick_gl (v := .bool (((v2.2) == (0)))) (w := .bool (false)) rfl rfl beq_t rfl bif_v rfl rfl rfl) ?_
  refine mv rfl ?_
  refine run_g rfl rfl beq_t (fun hg => opL_fieldp (T := tb) rfl rfl rfl rfl rfl rfl rfl rfl rfl) ?_
  refine run_g rfl rfl beq_t (fun hg => opL_load_box (T := tb) (gt_t hg) rfl rfl rfl rfl rfl) ?_
  refine run_g rfl rfl beq_t (fun hg => opL_cmp (c := ((v2.1.fKind) == (4))) (gt_t hg) rfl rfl rfl rfl) ?_
  refine u0 (opL_pick_gl (v := .bool (((v2.1.fKind) == (4)))) (w := .bool (false)) rfl rfl beq_t rfl bif_v rfl rfl rfl) ?_
  refine mv rfl ?_
  refine run_g rfl rfl beq_t (fun hg => opL_build_s (T := tb) rfl rfl rfl rfl rfl rfl rfl) ?_
  obtain ⟨v3, hv3, h⟩ := h
  refine run_g rfl rfl beq_t (fun hg => opL_call0 (c_operation_Validate _ _ (hv3 hg)) rfl rfl (.cons (toA_g hg (.agg (.cons (.p _) (.cons (.p _) (.cons (.p _) (.cons (.nil _) (.cons (.p _) (.cons (.p _) (.cons (.p _) (.cons (.p _) (.cons (.nil _) (.cons (.nil _) (.cons (.p _) (.cons (.p _) (.cons (.p _) (.cons (.p _) (.cons (.p _) (.cons (.p _) (.cons (.p _) (.cons (.p _) (.cons (.p _) (.cons (.p _) (.cons (.p _) (.cons (.nil _) .nil)))))))))))))))))))))))) .nil) rfl rfl rfl) ?_
  refine run_g rfl rfl beq_t (fun hg => opL_cmp (c := ((v3) == (18))) (gt_t hg) rfl rfl rfl rfl) ?_
  refine u0 (opL_pick_gl (v := .bool (((v3) == (18)))) (w := .bool (false)) rfl rfl beq_t rfl bif_v rfl rfl rfl) ?_
  refine mv rfl ?_
  obtain ⟨v4, hv4, h⟩ := h
  refine run_g rfl rfl beq_t (fun hg => opL_call0 (c_operation_Single _ _ (hv4 hg)) rfl rfl (.cons (.c (.p _)) .nil) rfl rfl rfl) ?_
  refine u0 (opL_pick_gl (v := .bool (v4)) (w := .bool (false)) rfl rfl beq_t rfl bif_v rfl rfl rfl) ?_
  refine mv rfl ?_
  obtain ⟨v5, hv5, h⟩ := h
  refine run_g rfl rfl beq_t (fun hg => opL_call0 (c_operation_Single _ _ (hv5 hg)) rfl rfl (.cons (.c (.p _)) .nil) rfl rfl rfl) ?_
  refine run_g rfl rfl beq_t (fun hg => opL_not (gt_t hg) rfl rfl) ?_
  refine u0 (opL_pick_gl (v := .bool (!(v5))) (w := .bool (false)) rfl rfl beq_t rfl bif_v rfl rfl rfl) ?_
  refine asn rfl rfl ?_
  refine rt (hL _ ?_)
  refine aw_sub (st' := ⟨[(0, .c (.p (.v (.bool ((bif (bif (bif (bif (bif ((v1.2) == (0)) then ((v2.2) == (0)) else false) then ((v2.1.fKind) == (4)) else false) then ((v3) == (18)) else false) then v4 else false) then !(v5) else false))))))], []⟩) (Sub.nm [0] [] rfl rfl) ?_
  obtain rfl := h
  exact aw_ret (hQ _ _ ⟨.inr rfl, _, _, _, (.cons (.p rfl) .nil), (.cons (.c (.p _)) .nil), rfl, rfl⟩)
def W_ref22_within (a0 : Int) (a1 : Int) (a2 : Int) (Q : Bool → Prop) : Prop :=
 Q (((bif decide ((a0) ≥ (a1)) then decide ((a0) ≤ (a2)) else false)))
def R_ref22_within (a0 : Int) (a1 : Int) (a2 : Int) (r : Bool) : Prop := W_ref22_within a0 a1 a2 fun x => r = x
theorem e_ref22_within {a0 : Int} {a1 : Int} {a2 : Int} {Post : Bool → Prop} (h : W_ref22_within a0 a1 a2 Post) : ∃ r, R_ref22_within a0 a1 a2 r ∧ Post r := (show GM (W_ref22_within a0 a1 a2) (W_ref22_within a0 a1 a2) from GM.ret _) Post h
theorem c_ref22_within (a0 : Int) (a1 : Int) (a2 : Int) (r : Bool) (h : R_ref22_within a0 a1 a2 r) : Contract Try.prog 24 [.c (.v (.int .i64 (a0))), .c (.v (.int .i64 (a1))), .c (.v (.int .i64 (a2)))] [.c (.p (.v (.bool (r))))] [] := by
  refine contract0 tb Try.func24 rfl (by kernel_rfl) rfl rfl (Nat.le_of_ble_eq_true rfl) rfl ?_
  intro E
  unfold R_ref22_within W_ref22_within at h
  refine aw_Q (fun Q hQ => ?_)
  refine tk fun L hL => ?_
  refine asn rfl rfl ?_
  refine rt (hL _ ?_)
  refine tk fun L hL => ?_
  refine mv rfl ?_
  refine mv rfl ?_
  refine u0 (opL_cmp (c := decide ((a0) ≥ (a1))) rfl rfl rfl rfl rfl) ?_
  refine mv rfl ?_
  refine run_g rfl rfl beq_t (fun hg => opL_move_c rfl rfl) ?_
  refine run_g rfl rfl beq_t (fun hg => opL_move_c rfl rfl) ?_
  refine run_g rfl rfl beq_t (fun hg => opL_cmp (c := decide ((a0) ≤ (a2))) (gt_t hg) (gt_t hg) rfl rfl rfl) ?_
  refine u0 (opL_pick_gl (v := .bool (decide ((a0) ≤ (a2)))) (w := .bool (false)) rfl rfl beq_t rfl bif_v rfl rfl rfl) ?_
  refine asn rfl rfl ?_
  refine rt (hL _ ?_)
  refine aw_sub (st' := ⟨[(6, .c (.p (.v (.bool ((bif decide ((a0) ≥ (a1)) then decide ((a0) ≤ (a2)) else false))))))], []⟩) (Sub.nm [6] [] rfl rfl) ?_
  obtain rfl := h
  exact aw_ret (hQ _ _ ⟨.inr rfl, _, _, _, (.cons (.p rfl) .nil), (.cons (.c (.p _)) .nil), rfl, rfl⟩)
def W_ref22_in (a0 : Int) (a1 : (List Int)) (Q : Bool → Prop) : Prop :=
 jn (fun (p1 : Unit) => Q ((false))) (fun (J1 : Unit → Prop) => lp (fun (X2 : Int → Prop) (s2 : Int) => (((decide ((s2) < (((a1).length : Int)))) = true → ∃ (v5 : Int), ix (a1) (s2) v5 ∧ (((((v5) == (a0))) = true → Q ((true))) ∧ ((((v5) == (a0))) = false → X2 ((IntKind.i64.wrap ((s2) + (1))))))) ∧ ((decide ((s2) < (((a1).length : Int)))) = false → J1 (())))) ((0)))
def R_ref22_in (a0 : Int) (a1 : (List Int)) (r : Bool) : Prop := W_ref22_in a0 a1 fun x => r = x
theorem e_ref22_in {a0 : Int} {a1 : (List Int)} {Post : Bool → Prop} (h : W_ref22_in a0 a1 Post) : ∃ r, R_ref22_in a0 a1 r ∧ Post r := (show GM (W_ref22_in a0 a1) (W_ref22_in a0 a1) from GM.join (fun p1 => GM.ret _) (fun _ _ J1 => GM.loop (fun X Y Q s2 X2 h => ⟨fun hc => (Exists.elim ((h).1 hc) fun v5 hv5 => ⟨v5, hv5.1, ⟨fun hc => (hv5.2).1 hc, fun hc => X2 _ ((hv5.2).2 hc)⟩⟩), fun hc => (h).2 hc⟩) (fun _ _ X2 s2 => GM.cond (GM.ex fun v5 => GM.cond (GM.ret _) (X2 _)) (J1 _)))) Post h
theorem c_ref22_in (a0 : Int) (a1 : (List Int)) (r : Bool) (h : R_ref22_in a0 a1 r) : Contract Try.prog 30 [.c (.v (.int .i64 (a0))), .c (.l 1 (List.map (eI .i64) (a1)))] [.c (.p (.v (.bool (r))))] [] := by
  refine contract0 tb Try.func30 rfl (by kernel_rfl) rfl rfl (Nat.le_of_ble_eq_true rfl) rfl ?_
  intro E
  unfold R_ref22_in W_ref22_in at h
  refine aw_Q (fun Q hQ => ?_)
  refine tk fun L hL => ?_
  refine asn rfl rfl ?_
  refine rt (hL _ ?_)
  refine aw_jn (fun (p1 : Unit) => (⟨[], []⟩ : St)) h (fun p1 h => ?_) (fun J1 L1 hL1 h => ?_)
  · refine tk fun L hL => ?_
    refine asn rfl rfl ?_
    refine rt (hL _ ?_)
    obtain rfl := h
    exact aw_ret (hQ _ _ ⟨.inr rfl, _, _, _, (.cons (.p rfl) .nil), (.cons (.c (.p _)) .nil), rfl, rfl⟩)
  · refine tk fun L hL => ?_
    refine asn rfl rfl ?_
    refine rt (hL _ ?_)
    refine aw_block ?_
    refine aw_lp (fun (s2 : Int) => (⟨[(0, .c (.p (.v (.int .i64 (a0))))), (1, .c (.p (.l 1 (List.map (eI .i64) (a1))))), (5, .c (.p (.v (.int .i64 (s2)))))], []⟩ : St)) h (Sub.nm [0, 1, 5] [] rfl (by kernel_rfl)) (fun X2 L2 hL2 s2 h => ?_)
    refine sk fun L3 hL3 => ?_
    refine tk fun L hL => ?_
    refine mv rfl ?_
    refine mv rfl ?_
    refine u0 (o_len_l (T := tb) rfl rfl rfl rfl) ?_
    refine u0 (opL_cmp (c := decide ((s2) < (((a1).length : Int)))) rfl rfl rfl rfl rfl) ?_
    refine rt (hL _ ?_)
    refine cnd rfl h (fun h => ?_) fun h => ?_
    · refine aw_skip (hL3 _ ?_)
      refine sk fun L4 hL4 => ?_
      refine aw_block ?_
      refine tk fun L hL => ?_
      refine mv rfl ?_
      refine mv rfl ?_
      obtain ⟨v5, hv5, h⟩ := h
      refine u0 (o_idx_l (T := tb) hv5 rfl rfl rfl rfl rfl rfl rfl rfl) ?_
      refine u0 (opL_load_ep (T := tb) rfl rfl rfl rfl rfl) ?_
      refine mv rfl ?_
      refine u0 (opL_cmp (c := ((v5) == (a0))) rfl rfl rfl rfl rfl) ?_
      refine rt (hL _ ?_)
      refine cnd rfl h (fun h => ?_) fun h => ?_
      · refine tk fun L hL => ?_
        refine asn rfl rfl ?_
        refine rt (hL _ ?_)
        obtain rfl := h
        exact aw_ret (hQ _ _ ⟨.inr rfl, _, _, _, (.cons (.p rfl) .nil), (.cons (.c (.p _)) .nil), rfl, rfl⟩)
      · refine aw_skip (hL4 _ ?_)
        refine tl fun L hL => ?_
        refine mv rfl ?_
        refine u0 (opL_add rfl rfl rfl rfl rfl) ?_
        refine asn rfl rfl ?_
        refine rt (hL _ (hL2 _ _ h (Sub.nm [0, 1, 5] [] rfl (by kernel_rfl))))
    · refine aw_exit (hL1 _ _ h (Sub.nm [] [] rfl (by kernel_rfl)))
def W_ref22_Uses (a0 : Int) (Q : T_A13_Bool → Prop) : Prop :=
 ∃ (v1 : Bool), R_ref22_in (a0) ([(1), (2), (3), (5), (6), (7), (8), (16)]) v1 ∧ ∃ (v2 : Bool), R_ref22_in (a0) ([(3), (7), (8)]) v2 ∧ ∃ (v3 : Bool), R_ref22_in (a0) ([(9)]) v3 ∧ ∃ (v4 : Bool), R_ref22_in (a0) ([(1)]) v4 ∧ ∃ (v5 : Bool), R_ref22_in (a0) ([(6)]) v5 ∧ ∃ (v6 : Bool), R_ref22_in (a0) ([(6), (7), (8)]) v6 ∧ ∃ (v7 : Bool), R_ref22_in (a0) ([(8)]) v7 ∧ ∃ (v8 : Bool), R_ref22_in (a0) ([(10), (11), (12), (15)]) v8 ∧ ∃ (v9 : Bool), R_ref22_in (a0) ([(10), (12), (15)]) v9 ∧ ∃ (v10 : Bool), R_ref22_in (a0) ([(13), (14)]) v10 ∧ ∃ (v11 : Bool), R_ref22_in (a0) ([(13)]) v11 ∧ ∃ (v12 : Bool), R_ref22_in (a0) ([(5), (10)]) v12 ∧ ∃ (v13 : Bool), R_ref22_in (a0) ([(16)]) v13 ∧ Q ((T_A13_Bool.mk (v1) (v2) (v3) (v4) (v5) (v6) (v7) (v8) (v9) (v10) (v11) (v12) (v13)))
def R_ref22_Uses (a0 : Int) (r : T_A13_Bool) : Prop := W_ref22_Uses a0 fun x => r = x
theorem e_ref22_Uses {a0 : Int} {Post : T_A13_Bool → Prop} (h : W_ref22_Uses a0 Post) : ∃ r, R_ref22_Uses a0 r ∧ Post r := (show GM (W_ref22_Uses a0) (W_ref22_Uses a0) from GM.ex fun v1 => GM.ex fun v2 => GM.ex fun v3 => GM.ex fun v4 => GM.ex fun v5 => GM.ex fun v6 => GM.ex fun v7 => GM.ex fun v8 => GM.ex fun v9 => GM.ex fun v10 => GM.ex fun v11 => GM.ex fun v12 => GM.ex fun v13 => GM.ret _) Post h
theorem c_ref22_Uses (a0 : Int) (r : T_A13_Bool) (h : R_ref22_Uses a0 r) : Contract Try.prog 25 [.c (.v (.int .i64 (a0)))] [.agg [.p (.v (.bool (r.fe0))), .p (.v (.bool (r.fe1))), .p (.v (.bool (r.fe2))), .p (.v (.bool (r.fe3))), .p (.v (.bool (r.fe4))), .p (.v (.bool (r.fe5))), .p (.v (.bool (r.fe6))), .p (.v (.bool (r.fe7))), .p (.v (.bool (r.fe8))), .p (.v (.bool (r.fe9))), .p (.v (.bool (r.fe10))), .p (.v (.bool (r.fe11))), .p (.v (.bool (r.fe12)))]] [] := by
  refine contract0 tb Try.func25 rfl (by kernel_rfl) rfl rfl (Nat.le_of_ble_eq_true rfl) rfl ?_
  intro E
  unfold R_ref22_Uses W_ref22_Uses at h
  refine aw_Q (fun Q hQ => ?_)
  refine tk fun L hL => ?_
  refine u1 (opL_alloc (T := tb) rfl rfl rfl) ?_
  refine rt (hL _ ?_)
  refine tk fun L hL => ?_
  refine mv rfl ?_
  refine ul (opL_build_sl (T := tb) (rows := List.map (eI .i64) [(1), (2), (3), (5), (6), (7), (8), (16)]) rfl rfl rfl rfl rfl rfl rfl rfl rfl rfl rfl rfl rfl) ?_
  obtain ⟨v1, hv1, h⟩ := h
  refine ul (opL_callk (c_ref22_in _ _ _ hv1) (noLl (NoLl.cons (.p rfl) NoLl.nil)) rfl rfl (.cons (.c (.p _)) (.cons (.c (.fr rfl (dt_alln rfl))) .nil)) rfl rfl rfl) ?_
  refine mv rfl ?_
  refine ul (opL_build_sl (T := tb) (rows := List.map (eI .i64) [(3), (7), (8)]) rfl rfl rfl rfl rfl rfl rfl rfl rfl rfl rfl rfl rfl) ?_
  obtain ⟨v2, hv2, h⟩ := h
  refine ul (opL_callk (c_ref22_in _ _ _ hv2) (noLl (NoLl.cons (.p rfl) NoLl.nil)) rfl rfl (.cons (.c (.p _)) (.cons (.c (.fr rfl (dt_alln rfl))) .nil)) rfl rfl rfl) ?_
  refine mv rfl ?_
  refine ul (opL_build_sl (T := tb) (rows := List.map (eI .i64) [(9)]) rfl rfl rfl rfl rfl rfl rfl rfl rfl rfl rfl rfl rfl) ?_
  obtain ⟨v3, hv3, h⟩ := h
  refine ul (opL_callk (c_ref22_in _ _ _ hv3) (noLl (NoLl.cons (.p rfl) NoLl.nil)) rfl rfl (.cons (.c (.p _)) (.cons (.c (.fr rfl (dt_alln rfl))) .nil)) rfl rfl rfl) ?_
  refine mv rfl ?_
  refine ul (opL_build_sl (T := tb) (rows := List.map (eI .i64) [(1)]) rfl rfl rfl rfl rfl rfl rfl rfl rfl rfl rfl rfl rfl) ?_
  obtain ⟨v4, hv4, h⟩ := h
  refine ul (opL_callk (c_ref22_in _ _ _ hv4) (noLl (NoLl.cons (.p rfl) NoLl.nil)) rfl rfl (.cons (.c (.p _)) (.cons (.c (.fr rfl (dt_alln rfl))) .nil)) rfl rfl rfl) ?_
  refine mv rfl ?_
  refine ul (opL_build_sl (T := tb) (rows := List.map (eI .i64) [(6)]) rfl rfl rfl rfl rfl rfl rfl rfl rfl rfl rfl rfl rfl) ?_
  obtain ⟨v5, hv5, h⟩ := h
  refine ul (opL_callk (c_ref22_in _ _ _ hv5) (noLl (NoLl.cons (.p rfl) NoLl.nil)) rfl rfl (.cons (.c (.p _)) (.cons (.c (.fr rfl (dt_alln rfl))) .nil)) rfl rfl rfl) ?_
  refine mv rfl ?_
  refine ul (opL_build_sl (T := tb) (rows := List.map (eI .i64) [(6), (7), (8)]) rfl rfl rfl rfl rfl rfl rfl rfl rfl rfl rfl rfl rfl) ?_
  obtain ⟨v6, hv6, h⟩ := h
  refine ul (opL_callk (c_ref22_in _ _ _ hv6) (noLl (NoLl.cons (.p rfl) NoLl.nil)) rfl rfl (.cons (.c (.p _)) (.cons (.c (.fr rfl (dt_alln rfl))) .nil)) rfl rfl rfl) ?_
  refine mv rfl ?_
  refine ul (opL_build_sl (T := tb) (rows := List.map (eI .i64) [(8)]) rfl rfl rfl rfl rfl rfl rfl rfl rfl rfl rfl rfl rfl) ?_
  obtain ⟨v7, hv7, h⟩ := h
  refine ul (opL_callk (c_ref22_in _ _ _ hv7) (noLl (NoLl.cons (.p rfl) NoLl.nil)) rfl rfl (.cons (.c (.p _)) (.cons (.c (.fr rfl (dt_alln rfl))) .nil)) rfl rfl rfl) ?_
  refine mv rfl ?_
  refine ul (opL_build_sl (T := tb) (rows := List.map (eI .i64) [(10), (11), (12), (15)]) rfl rfl rfl rfl rfl rfl rfl rfl rfl rfl rfl rfl rfl) ?_
  obtain ⟨v8, hv8, h⟩ := h
  refine ul (opL_callk (c_ref22_in _ _ _ hv8) (noLl (NoLl.cons (.p rfl) NoLl.nil)) rfl rfl (.cons (.c (.p _)) (.cons (.c (.fr rfl (dt_alln rfl))) .nil)) rfl rfl rfl) ?_
  refine mv rfl ?_
  refine ul (opL_build_sl (T := tb) (rows := List.map (eI .i64) [(10), (12), (15)]) rfl rfl rfl rfl rfl rfl rfl rfl rfl rfl rfl rfl rfl) ?_
  obtain ⟨v9, hv9, h⟩ := h
  refine ul (opL_callk (c_ref22_in _ _ _ hv9) (noLl (NoLl.cons (.p rfl) NoLl.nil)) rfl rfl (.cons (.c (.p _)) (.cons (.c (.fr rfl (dt_alln rfl))) .nil)) rfl rfl rfl) ?_
  refine mv rfl ?_
  refine ul (opL_build_sl (T := tb) (rows := List.map (eI .i64) [(13), (14)]) rfl rfl rfl rfl rfl rfl rfl rfl rfl rfl rfl rfl rfl) ?_
  obtain ⟨v10, hv10, h⟩ := h
  refine ul (opL_callk (c_ref22_in _ _ _ hv10) (noLl (NoLl.cons (.p rfl) NoLl.nil)) rfl rfl (.cons (.c (.p _)) (.cons (.c (.fr rfl (dt_alln rfl))) .nil)) rfl rfl rfl) ?_
  refine mv rfl ?_
  refine ul (opL_build_sl (T := tb) (rows := List.map (eI .i64) [(13)]) rfl rfl rfl rfl rfl rfl rfl rfl rfl rfl rfl rfl rfl) ?_
  obtain ⟨v11, hv11, h⟩ := h
  refine ul (opL_callk (c_ref22_in _ _ _ hv11) (noLl (NoLl.cons (.p rfl) NoLl.nil)) rfl rfl (.cons (.c (.p _)) (.cons (.c (.fr rfl (dt_alln rfl))) .nil)) rfl rfl rfl) ?_
  refine mv rfl ?_
  refine ul (opL_build_sl (T := tb) (rows := List.map (eI .i64) [(5), (10)]) rfl rfl rfl rfl rfl rfl rfl rfl rfl rfl rfl rfl rfl) ?_
  obtain ⟨v12, hv12, h⟩ := h
  refine ul (opL_callk (c_ref22_in _ _ _ hv12) (noLl (NoLl.cons (.p rfl) NoLl.nil)) rfl rfl (.cons (.c (.p _)) (.cons (.c (.fr rfl (dt_alln rfl))) .nil)) rfl rfl rfl) ?_
  refine mv rfl ?_
  refine ul (opL_build_sl (T := tb) (rows := List.map (eI .i64) [(16)]) rfl rfl rfl rfl rfl rfl rfl rfl rfl rfl rfl rfl rfl) ?_
  obtain ⟨v13, hv13, h⟩ := h
  refine ul (opL_callk (c_ref22_in _ _ _ hv13) (noLl (NoLl.cons (.p rfl) NoLl.nil)) rfl rfl (.cons (.c (.p _)) (.cons (.c (.fr rfl (dt_alln rfl))) .nil)) rfl rfl rfl) ?_
  refine u0 (opL_build_a (T := tb) (cs := [.p (.v (.bool (v1))), .p (.v (.bool (v2))), .p (.v (.bool (v3))), .p (.v (.bool (v4))), .p (.v (.bool (v5))), .p (.v (.bool (v6))), .p (.v (.bool (v7))), .p (.v (.bool (v8))), .p (.v (.bool (v9))), .p (.v (.bool (v10))), .p (.v (.bool (v11))), .p (.v (.bool (v12))), .p (.v (.bool (v13)))]) rfl rfl rfl rfl rfl (by kernel_rfl) rfl) ?_
  refine un (opL_st_a (T := tb) rfl rfl rfl rfl rfl rfl rfl rfl rfl) ?_
  refine rt (hL _ ?_)
  refine aw_sub (st' := ⟨[(2, .c (.ptr (2, 0) 0 0))], [((2, 0), some (.box ([.p (.v (.bool (v1))), .p (.v (.bool (v2))), .p (.v (.bool (v3))), .p (.v (.bool (v4))), .p (.v (.bool (v5))), .p (.v (.bool (v6))), .p (.v (.bool (v7))), .p (.v (.bool (v8))), .p (.v (.bool (v9))), .p (.v (.bool (v10))), .p (.v (.bool (v11))), .p (.v (.bool (v12))), .p (.v (.bool (v13)))])))]⟩) (Sub.nm [2] [((2, 0), (2, 0))] rfl rfl) ?_
  obtain rfl := h
  exact aw_ret (hQ _ _ ⟨.inr rfl, _, _, _, (.cons (.cella rfl rfl rfl rfl rfl) .nil), (.cons (.agg (.cons (.p _) (.cons (.p _) (.cons (.p _) (.cons (.p _) (.cons (.p _) (.cons (.p _) (.cons (.p _) (.cons (.p _) (.cons (.p _) (.cons (.p _) (.cons (.p _) (.cons (.p _) (.cons (.p _) .nil)))))))))))))) .nil), rfl, rfl⟩)
def W_ref1_between (a0 : Int) (a1 : Int) (a2 : Int) (Q : Bool → Prop) : Prop :=
 Q (((bif decide ((a0) ≥ (a1)) then decide ((a0) ≤ (a2)) else false)))
def R_ref1_between (a0 : Int) (a1 : Int) (a2 : Int) (r : Bool) : Prop := W_ref1_between a0 a1 a2 fun x => r = x
theorem e_ref1_between {a0 : Int} {a1 : Int} {a2 : Int} {Post : Bool → Prop} (h : W_ref1_between a0 a1 a2 Post) : ∃ r, R_ref1_between a0 a1 a2 r ∧ Post r := (show GM (W_ref1_between a0 a1 a2) (W_ref1_between a0 a1 a2) from GM.ret _) Post h
theorem c_ref1_between (a0 : Int) (a1 : Int) (a2 : Int) (r : Bool) (h : R_ref1_between a0 a1 a2 r) : Contract Try.prog 46 [.c (.v (.int .u8 (a0))), .c (.v (.int .u8 (a1))), .c (.v (.int .u8 (a2)))] [.c (.p (.v (.bool (r))))] [] := by
  refine contract0 tb Try.func46 rfl (by kernel_rfl) rfl rfl (Nat.le_of_ble_eq_true rfl) rfl ?_
  intro E
  unfold R_ref1_between W_ref1_between at h
  refine aw_Q (fun Q hQ => ?_)
  refine tk fun L hL => ?_
  refine asn rfl rfl ?_
  refine rt (hL _ ?_)
  refine tk fun L hL => ?_
  refine mv rfl ?_
  refine mv rfl ?_
  refine u0 (opL_cmp (c := decide ((a0) ≥ (a1))) rfl rfl rfl rfl rfl) ?_
  refine mv rfl ?_
  refine run_g rfl rfl beq_t (fun hg => opL_move_c rfl rfl) ?_
  refine run_g rfl rfl beq_t (fun hg => opL_move_c rfl rfl) ?_
  refine run_g rfl rfl beq_t (fun hg => opL_cmp (c := decide ((a0) ≤ (a2))) (gt_t hg) (gt_t hg) rfl rfl rfl) ?_
  refine u0 (opL_pick_gl (v := .bool (decide ((a0) ≤ (a2)))) (w := .bool (false)) rfl rfl beq_t rfl bif_v rfl rfl rfl) ?_
  refine asn rfl rfl ?_
  refine rt (hL _ ?_)
  refine aw_sub (st' := ⟨[(6, .c (.p (.v (.bool ((bif decide ((a0) ≥ (a1)) then decide ((a0) ≤ (a2)) else false))))))], []⟩) (Sub.nm [6] [] rfl rfl) ?_
  obtain rfl := h
  exact aw_ret (hQ _ _ ⟨.inr rfl, _, _, _, (.cons (.p rfl) .nil), (.cons (.c (.p _)) .nil), rfl, rfl⟩)
def W_ref1_IsName (a0 : ByteArray) (Q : Bool → Prop) : Prop :=
 ∃ (v2 : Int), ((!((bif decide ((((a0).size : Int)) < (1)) then true else decide ((((a0).size : Int)) > (16))))) = true → bx (a0) (0) v2) ∧ ∃ (v3 : Bool), ((!((bif decide ((((a0).size : Int)) < (1)) then true else decide ((((a0).size : Int)) > (16))))) = true → R_ref1_between (v2) (97) (122) v3) ∧ ((((bif (bif decide ((((a0).size : Int)) < (1)) then true else decide ((((a0).size : Int)) > (16))) then true else !(v3))) = true → Q ((false))) ∧ (((bif (bif decide ((((a0).size : Int)) < (1)) then true else decide ((((a0).size : Int)) > (16))) then true else !(v3))) = false → jn (fun (p4 : Unit) => Q ((true))) (fun (J4 : Unit → Prop) => lp (fun (X5 : Int → Prop) (s5 : Int) => (((decide ((s5) < (((a0).size : Int)))) = true → ∃ (v8 : Int), bx (a0) (s5) v8 ∧ ∃ (v9 : Bool), R_ref1_between (v8) (97) (122) v9 ∧ ∃ (v10 : Int), ((!(v9)) = true → bx (a0) (s5) v10) ∧ ∃ (v11 : Bool), ((!(v9)) = true → R_ref1_between (v10) (48) (57) v11) ∧ ∃ (v12 : Int), (((bif !(v9) then !(v11) else false)) = true → bx (a0) (s5) v12) ∧ ∃ (v13 : Int), (((bif (bif !(v9) then !(v11) else false) then ((v12) != (45)) else false)) = true → bx (a0) (s5) v13) ∧ ((((bif (bif (bif !(v9) then !(v11) else false) then ((v12) != (45)) else false) then ((v13) != (46)) else false)) = true → Q ((false))) ∧ (((bif (bif (bif !(v9) then !(v11) else false) then ((v12) != (45)) else false) then ((v13) != (46)) else false)) = false → X5 ((IntKind.i64.wrap ((s5) + (1))))))) ∧ ((decide ((s5) < (((a0).size : Int)))) = false → J4 (())))) ((0)))))
def R_ref1_IsName (a0 : ByteArray) (r : Bool) : Prop := W_ref1_IsName a0 fun x => r = x
theorem e_ref1_IsName {a0 : ByteArray} {Post : Bool → Prop} (h : W_ref1_IsName a0 Post) : ∃ r, R_ref1_IsName a0 r ∧ Post r := (show GM (W_ref1_IsName a0) (W_ref1_IsName a0) from GM.ex fun v2 => GM.ex fun v3 => GM.cond (GM.ret _) (GM.join (fun p4 => GM.ret _) (fun _ _ J4 => GM.loop (fun X Y Q s5 X5 h => ⟨fun hc => (Exists.elim ((h).1 hc) fun v8 hv8 => ⟨v8, hv8.1, (Exists.elim (hv8.2) fun v9 hv9 => ⟨v9, hv9.1, (Exists.elim (hv9.2) fun v10 hv10 => ⟨v10, hv10.1, (Exists.elim (hv10.2) fun v11 hv11 => ⟨v11, hv11.1, (Exists.elim (hv11.2) fun v12 hv12 => ⟨v12, hv12.1, (Exists.elim (hv12.2) fun v13 hv13 => ⟨v13, hv13.1, ⟨fun hc => (hv13.2).1 hc, fun hc => X5 _ ((hv13.2).2 hc)⟩⟩)⟩)⟩)⟩)⟩)⟩), fun hc => (h).2 hc⟩) (fun _ _ X5 s5 => GM.cond (GM.ex fun v8 => GM.ex fun v9 => GM.ex fun v10 => GM.ex fun v11 => GM.ex fun v12 => GM.ex fun v13 => GM.cond (GM.ret _) (X5 _)) (J4 _))))) Post h
theorem c_ref1_IsName (a0 : ByteArray) (r : Bool) (h : R_ref1_IsName a0 r) : Contract Try.prog 26 [.c (.v (.string (a0)))] [.c (.p (.v (.bool (r))))] [] := by
  refine contract0 tb Try.func26 rfl (by kernel_rfl) rfl rfl (Nat.le_of_ble_eq_true rfl) rfl ?_
  intro E
  unfold R_ref1_IsName W_ref1_IsName at h
  refine aw_Q (fun Q hQ => ?_)
  refine tk fun L hL => ?_
  refine asn rfl rfl ?_
  refine rt (hL _ ?_)
  refine sk fun L1 hL1 => ?_
  refine tk fun L hL => ?_
  refine mv rfl ?_
  refine u0 (opL_len_str (T := tb) rfl rfl rfl rfl) ?_
  refine u0 (opL_cmp (c := decide ((((a0).size : Int)) < (1))) rfl rfl rfl rfl rfl) ?_
  refine mv rfl ?_
  refine run_g rfl rfl beq_f (fun hg => opL_move_c rfl rfl) ?_
  refine run_g rfl rfl beq_f (fun hg => opL_len_str (T := tb) (gt_t hg) rfl rfl rfl) ?_
  refine run_g rfl rfl beq_f (fun hg => opL_cmp (c := decide ((((a0).size : Int)) > (16))) (gt_t hg) rfl rfl rfl rfl) ?_
  refine u0 (opL_pick_gr (v := .bool (true)) (w := .bool (decide ((((a0).size : Int)) > (16)))) rfl rfl beq_f rfl bif_v rfl rfl rfl) ?_
  refine mv rfl ?_
  refine run_g rfl rfl beq_f (fun hg => opL_move_c rfl rfl) ?_
  obtain ⟨v2, hv2, h⟩ := h
  refine run_g rfl rfl beq_f (fun hg => o_index_str (T := tb) (hv2 hg) (gt_t hg) rfl rfl rfl rfl rfl) ?_
  obtain ⟨v3, hv3, h⟩ := h
  refine run_g rfl rfl beq_f (fun hg => opL_call0 (c_ref1_between _ _ _ _ (hv3 hg)) rfl rfl (.cons (toA_g hg (.c (.p _))) (.cons (.c (.p _)) (.cons (.c (.p _)) .nil))) rfl rfl rfl) ?_
  refine run_g rfl rfl beq_f (fun hg => opL_not (gt_t hg) rfl rfl) ?_
  refine u0 (opL_pick_gr (v := .bool (true)) (w := .bool (!(v3))) rfl rfl beq_f rfl bif_v rfl rfl rfl) ?_
  refine rt (hL _ ?_)
  refine aw_sub (st' := ⟨[(0, .c (.p (.v (.string (a0))))), (17, .c (.p (.v (.bool ((bif (bif decide ((((a0).size : Int)) < (1)) then true else decide ((((a0).size : Int)) > (16))) then true else !(v3)))))))], []⟩) (Sub.nm [0, 17] [] rfl rfl) ?_
  refine cnd rfl h (fun h => ?_) fun h => ?_
  · refine tk fun L hL => ?_
    refine asn rfl rfl ?_
    refine rt (hL _ ?_)
    obtain rfl := h
    exact aw_ret (hQ _ _ ⟨.inr rfl, _, _, _, (.cons (.p rfl) .nil), (.cons (.c (.p _)) .nil), rfl, rfl⟩)
  · refine aw_skip (hL1 _ ?_)
    refine aw_jn (fun (p4 : Unit) => (⟨[], []⟩ : St)) h (fun p4 h => ?_) (fun J4 L4 hL4 h => ?_)
    · refine tk fun L hL => ?_
      refine asn rfl rfl ?_
      refine rt (hL _ ?_)
      obtain rfl := h
      exact aw_ret (hQ _ _ ⟨.inr rfl, _, _, _, (.cons (.p rfl) .nil), (.cons (.c (.p _)) .nil), rfl, rfl⟩)
    · refine tk fun L hL => ?_
      refine asn rfl rfl ?_
      refine rt (hL _ ?_)
      refine aw_block ?_
      refine aw_lp (fun (s5 : Int) => (⟨[(0, .c (.p (.v (.string (a0))))), (3, .c (.p (.v (.int .i64 (s5)))))], []⟩ : St)) h (Sub.nm [0, 3] [] rfl (by kernel_rfl)) (fun X5 L5 hL5 s5 h => ?_)
      refine sk fun L6 hL6 => ?_
      refine tk fun L hL => ?_
      refine mv rfl ?_
      refine mv rfl ?_
      refine u0 (opL_len_str (T := tb) rfl rfl rfl rfl) ?_
      refine u0 (opL_cmp (c := decide ((s5) < (((a0).size : Int)))) rfl rfl rfl rfl rfl) ?_
      refine rt (hL _ ?_)
      refine cnd rfl h (fun h => ?_) fun h => ?_
      · refine aw_skip (hL6 _ ?_)
        refine sk fun L7 hL7 => ?_
        refine aw_block ?_
        refine tk fun L hL => ?_
        refine mv rfl ?_
        refine mv rfl ?_
        obtain ⟨v8, hv8, h⟩ := h
        refine u0 (o_index_str (T := tb) hv8 rfl rfl rfl rfl rfl rfl) ?_
        obtain ⟨v9, hv9, h⟩ := h
        refine u0 (opL_call0 (c_ref1_between _ _ _ _ hv9) rfl rfl (.cons (.c (.p _)) (.cons (.c (.p _)) (.cons (.c (.p _)) .nil))) rfl rfl rfl) ?_
        refine u0 (opL_not rfl rfl rfl) ?_
        refine mv rfl ?_
        refine run_g rfl rfl beq_t (fun hg => opL_move_c rfl rfl) ?_
        refine run_g rfl rfl beq_t (fun hg => opL_move_c rfl rfl) ?_
        obtain ⟨v10, hv10, h⟩ := h
        refine run_g rfl rfl beq_t (fun hg => o_index_str (T := tb) (hv10 hg) (gt_t hg) (gt_t hg) rfl rfl rfl rfl) ?_
        obtain ⟨v11, hv11, h⟩ := h
        refine run_g rfl rfl beq_t (fun hg => opL_call0 (c_ref1_between _ _ _ _ (hv11 hg)) rfl rfl (.cons (toA_g hg (.c (.p _))) (.cons (.c (.p _)) (.cons (.c (.p _)) .nil))) rfl rfl rfl) ?_
        refine run_g rfl rfl beq_t (fun hg => opL_not (gt_t hg) rfl rfl) ?_
        refine u0 (opL_pick_gl (v := .bool (!(v11))) (w := .bool (false)) rfl rfl beq_t rfl bif_v rfl rfl rfl) ?_
        refine mv rfl ?_
        refine run_g rfl rfl beq_t (fun hg => opL_move_c rfl rfl) ?_
        refine run_g rfl rfl beq_t (fun hg => opL_move_c rfl rfl) ?_
        obtain ⟨v12, hv12, h⟩ := h
        refine run_g rfl rfl beq_t (fun hg => o_index_str (T := tb) (hv12 hg) (gt_t hg) (gt_t hg) rfl rfl rfl rfl) ?_
        refine run_g rfl rfl beq_t (fun hg => opL_cmp (c := ((v12) != (45))) (gt_t hg) rfl rfl rfl rfl) ?_
        refine u0 (opL_pick_gl (v := .bool (((v12) != (45)))) (w := .bool (false)) rfl rfl beq_t rfl bif_v rfl rfl rfl) ?_
        refine mv rfl ?_
        refine run_g rfl rfl beq_t (fun hg => opL_move_c rfl rfl) ?_
        refine run_g rfl rfl beq_t (fun hg => opL_move_c rfl rfl) ?_
        obtain ⟨v13, hv13, h⟩ := h
        refine run_g rfl rfl beq_t (fun hg => o_index_str (T := tb) (hv13 hg) (gt_t hg) (gt_t hg) rfl rfl rfl rfl) ?_
        refine run_g rfl rfl beq_t (fun hg => opL_cmp (c := ((v13) != (46))) (gt_t hg) rfl rfl rfl rfl) ?_
        refine u0 (opL_pick_gl (v := .bool (((v13) != (46)))) (w := .bool (false)) rfl rfl beq_t rfl bif_v rfl rfl rfl) ?_
        refine rt (hL _ ?_)
        refine aw_sub (st' := ⟨[(0, .c (.p (.v (.string (a0))))), (3, .c (.p (.v (.int .i64 (s5))))), (47, .c (.p (.v (.bool ((bif (bif (bif !(v9) then !(v11) else false) then ((v12) != (45)) else false) then ((v13) != (46)) else false))))))], []⟩) (Sub.nm [0, 3, 47] [] rfl rfl) ?_
        refine cnd rfl h (fun h => ?_) fun h => ?_
        · refine tk fun L hL => ?_
          refine asn rfl rfl ?_
          refine rt (hL _ ?_)
          obtain rfl := h
          exact aw_ret (hQ _ _ ⟨.inr rfl, _, _, _, (.cons (.p rfl) .nil), (.cons (.c (.p _)) .nil), rfl, rfl⟩)
        · refine aw_skip (hL7 _ ?_)
          refine tl fun L hL => ?_
          refine mv rfl ?_
          refine u0 (opL_add rfl rfl rfl rfl rfl) ?_
          refine asn rfl rfl ?_
          refine rt (hL _ (hL5 _ _ h (Sub.nm [0, 3] [] rfl (by kernel_rfl))))
      · refine aw_exit (hL4 _ _ h (Sub.nm [] [] rfl (by kernel_rfl)))
def W_ref1_IsKey (a0 : ByteArray) (Q : Bool → Prop) : Prop :=
 Q (((bif decide ((((a0).size : Int)) ≥ (1)) then decide ((((a0).size : Int)) ≤ (32)) else false)))
def R_ref1_IsKey (a0 : ByteArray) (r : Bool) : Prop := W_ref1_IsKey a0 fun x => r = x
theorem e_ref1_IsKey {a0 : ByteArray} {Post : Bool → Prop} (h : W_ref1_IsKey a0 Post) : ∃ r, R_ref1_IsKey a0 r ∧ Post r := (show GM (W_ref1_IsKey a0) (W_ref1_IsKey a0) from GM.ret _) Post h
theorem c_ref1_IsKey (a0 : ByteArray) (r : Bool) (h : R_ref1_IsKey a0 r) : Contract Try.prog 49 [.c (.v (.string (a0)))] [.c (.p (.v (.bool (r))))] [] := by
  refine contract0 tb Try.func49 rfl (by kernel_rfl) rfl rfl (Nat.le_of_ble_eq_true rfl) rfl ?_
  intro E
  unfold R_ref1_IsKey W_ref1_IsKey at h
  refine aw_Q (fun Q hQ => ?_)
  refine tk fun L hL => ?_
  refine asn rfl rfl ?_
  refine rt (hL _ ?_)
  refine tk fun L hL => ?_
  refine mv rfl ?_
  refine u0 (opL_len_str (T := tb) rfl rfl rfl rfl) ?_
  refine u0 (opL_cmp (c := decide ((((a0).size : Int)) ≥ (1))) rfl rfl rfl rfl rfl) ?_
  refine mv rfl ?_
  refine run_g rfl rfl beq_t (fun hg => opL_move_c rfl rfl) ?_
  refine run_g rfl rfl beq_t (fun hg => opL_len_str (T := tb) (gt_t hg) rfl rfl rfl) ?_
  refine run_g rfl rfl beq_t (fun hg => opL_cmp (c := decide ((((a0).size : Int)) ≤ (32))) (gt_t hg) rfl rfl rfl rfl) ?_
  refine u0 (opL_pick_gl (v := .bool (decide ((((a0).size : Int)) ≤ (32)))) (w := .bool (false)) rfl rfl beq_t rfl bif_v rfl rfl rfl) ?_
  refine asn rfl rfl ?_
  refine rt (hL _ ?_)
  refine aw_sub (st' := ⟨[(2, .c (.p (.v (.bool ((bif decide ((((a0).size : Int)) ≥ (1)) then decide ((((a0).size : Int)) ≤ (32)) else false))))))], []⟩) (Sub.nm [2] [] rfl rfl) ?_
  obtain rfl := h
  exact aw_ret (hQ _ _ ⟨.inr rfl, _, _, _, (.cons (.p rfl) .nil), (.cons (.c (.p _)) .nil), rfl, rfl⟩)
def W_ref1_ValidateItem (a0 : T_api_Item) (Q : Int → Prop) : Prop :=
 ∃ (v2 : Bool), R_ref1_IsKey (a0.fKey) v2 ∧ (((!(v2)) = true → Q ((7))) ∧ ((!(v2)) = false → ((((bif decide ((a0.fWeight) < (1)) then true else decide ((a0.fWeight) > (4294967295)))) = true → Q ((5))) ∧ (((bif decide ((a0.fWeight) < (1)) then true else decide ((a0.fWeight) > (4294967295)))) = false → Q ((0))))))
def R_ref1_ValidateItem (a0 : T_api_Item) (r : Int) : Prop := W_ref1_ValidateItem a0 fun x => r = x
theorem e_ref1_ValidateItem {a0 : T_api_Item} {Post : Int → Prop} (h : W_ref1_ValidateItem a0 Post) : ∃ r, R_ref1_ValidateItem a0 r ∧ Post r := (show GM (W_ref1_ValidateItem a0) (W_ref1_ValidateItem a0) from GM.ex fun v2 => GM.cond (GM.ret _) (GM.cond (GM.ret _) (GM.ret _))) Post h
theorem c_ref1_ValidateItem (a0 : T_api_Item) (r : Int) (h : R_ref1_ValidateItem a0 r) : Contract Try.prog 47 [.agg (e_api_Item a0)] [.c (.p (.v (.int .i64 (r))))] [] := by
  refine contract0 tb Try.func47 rfl (by kernel_rfl) rfl rfl (Nat.le_of_ble_eq_true rfl) rfl ?_
  intro E
  unfold R_ref1_ValidateItem W_ref1_ValidateItem at h
  refine aw_Q (fun Q hQ => ?_)
  refine tk fun L hL => ?_
  refine u1 (opL_box_a rfl rfl) ?_
  refine asn rfl rfl ?_
  refine rt (hL _ ?_)
  refine sk fun L1 hL1 => ?_
  refine tk fun L hL => ?_
  refine u0 (opL_fieldp (T := tb) rfl rfl rfl rfl rfl rfl rfl rfl rfl) ?_
  refine u0 (opL_load_box (T := tb) rfl rfl rfl rfl rfl rfl) ?_
  obtain ⟨v2, hv2, h⟩ := h
  refine u0 (opL_call0 (c_ref1_IsKey _ _ hv2) rfl rfl (.cons (.c (.p _)) .nil) rfl rfl rfl) ?_
  refine u0 (opL_not rfl rfl rfl) ?_
  refine rt (hL _ ?_)
  refine cnd rfl h (fun h => ?_) fun h => ?_
  · refine tk fun L hL => ?_
    refine asn rfl rfl ?_
    refine rt (hL _ ?_)
    obtain rfl := h
    exact aw_ret (hQ _ _ ⟨.inr rfl, _, _, _, (.cons (.p rfl) .nil), (.cons (.c (.p _)) .nil), rfl, rfl⟩)
  · refine aw_skip (hL1 _ ?_)
    refine sk fun L3 hL3 => ?_
    refine tk fun L hL => ?_
    refine u0 (opL_fieldp (T := tb) rfl rfl rfl rfl rfl rfl rfl rfl rfl) ?_
    refine u0 (opL_load_box (T := tb) rfl rfl rfl rfl rfl rfl) ?_
    refine u0 (opL_cmp (c := decide ((a0.fWeight) < (1))) rfl rfl rfl rfl rfl) ?_
    refine mv rfl ?_
    refine run_g rfl rfl beq_f (fun hg => opL_fieldp (T := tb) rfl rfl rfl rfl rfl rfl rfl rfl rfl) ?_
    refine run_g rfl rfl beq_f (fun hg => opL_load_box (T := tb) (gt_t hg) rfl rfl rfl rfl rfl) ?_
    refine run_g rfl rfl beq_f (fun hg => opL_cmp (c := decide ((a0.fWeight) > (4294967295))) (gt_t hg) rfl rfl rfl rfl) ?_
    refine u0 (opL_pick_gr (v := .bool (true)) (w := .bool (decide ((a0.fWeight) > (4294967295)))) rfl rfl beq_f rfl bif_v rfl rfl rfl) ?_
    refine rt (hL _ ?_)
    refine aw_sub (st' := ⟨[(14, .c (.p (.v (.bool ((bif decide ((a0.fWeight) < (1)) then true else decide ((a0.fWeight) > (4294967295))))))))], []⟩) (Sub.nm [14] [] rfl rfl) ?_
    refine cnd rfl h (fun h => ?_) fun h => ?_
    · refine tk fun L hL => ?_
      refine asn rfl rfl ?_
      refine rt (hL _ ?_)
      obtain rfl := h
      exact aw_ret (hQ _ _ ⟨.inr rfl, _, _, _, (.cons (.p rfl) .nil), (.cons (.c (.p _)) .nil), rfl, rfl⟩)
    · refine aw_skip (hL3 _ ?_)
      refine tk fun L hL => ?_
      refine asn rfl rfl ?_
      refine rt (hL _ ?_)
      obtain rfl := h
      exact aw_ret (hQ _ _ ⟨.inr rfl, _, _, _, (.cons (.p rfl) .nil), (.cons (.c (.p _)) .nil), rfl, rfl⟩)
def W_ref22_lists (a0 : T_api_Op) (a1 : Bool) (a2 : Bool) (Q : Int → Prop) : Prop :=
 jn (fun (p1 : Unit) => jn (fun (p9 : Unit) => Q ((0))) (fun (J9 : Unit → Prop) => (((a2) = true → ∃ (v11 : Bool), R_ref22_within (((a0.fItems).length : Int)) (1) (64) v11 ∧ (((!(v11)) = true → Q ((5))) ∧ ((!(v11)) = false → lp (fun (X12 : Int → Prop) (s12 : Int) => (((decide ((s12) < (((a0.fItems).length : Int)))) = true → ∃ (v15 : T_api_Item), ix (a0.fItems) (s12) v15 ∧ ∃ (v16 : Int), R_ref1_ValidateItem v15 v16 ∧ (((((v16) != (0))) = true → Q ((v16))) ∧ ((((v16) != (0))) = false → X12 ((IntKind.i64.wrap ((s12) + (1))))))) ∧ ((decide ((s12) < (((a0.fItems).length : Int)))) = false → J9 (())))) ((0))))) ∧ ((a2) = false → J9 (()))))) (fun (J1 : Unit → Prop) => (((a1) = true → ∃ (v3 : Bool), R_ref22_within (((a0.fNames).length : Int)) (1) (16) v3 ∧ (((!(v3)) = true → Q ((5))) ∧ ((!(v3)) = false → lp (fun (X4 : Int → Prop) (s4 : Int) => (((decide ((s4) < (((a0.fNames).length : Int)))) = true → ∃ (v7 : ByteArray), ix (a0.fNames) (s4) v7 ∧ ∃ (v8 : Bool), R_ref1_IsName (v7) v8 ∧ (((!(v8)) = true → Q ((6))) ∧ ((!(v8)) = false → X4 ((IntKind.i64.wrap ((s4) + (1))))))) ∧ ((decide ((s4) < (((a0.fNames).length : Int)))) = false → J1 (())))) ((0))))) ∧ ((a1) = false → J1 (()))))
def R_ref22_lists (a0 : T_api_Op) (a1 : Bool) (a2 : Bool) (r : Int) : Prop := W_ref22_lists a0 a1 a2 fun x => r = x
theorem e_ref22_lists {a0 : T_api_Op} {a1 : Bool} {a2 : Bool} {Post : Int → Prop} (h : W_ref22_lists a0 a1 a2 Post) : ∃ r, R_ref22_lists a0 a1 a2 r ∧ Post r := (show GM (W_ref22_lists a0 a1 a2) (W_ref22_lists a0 a1 a2) from GM.join (fun p1 => GM.join (fun p9 => GM.ret _) (fun _ _ J9 => GM.cond (GM.ex fun v11 => GM.cond (GM.ret _) (GM.loop (fun X Y Q s12 X12 h => ⟨fun hc => (Exists.elim ((h).1 hc) fun v15 hv15 => ⟨v15, hv15.1, (Exists.elim (hv15.2) fun v16 hv16 => ⟨v16, hv16.1, ⟨fun hc => (hv16.2).1 hc, fun hc => X12 _ ((hv16.2).2 hc)⟩⟩)⟩), fun hc => (h).2 hc⟩) (fun _ _ X12 s12 => GM.cond (GM.ex fun v15 => GM.ex fun v16 => GM.cond (GM.ret _) (X12 _)) (J9 _)))) (J9 _))) (fun _ _ J1 => GM.cond (GM.ex fun v3 => GM.cond (GM.ret _) (GM.loop (fun X Y Q s4 X4 h => ⟨fun hc => (Exists.elim ((h).1 hc) fun v7 hv7 => ⟨v7, hv7.1, (Exists.elim (hv7.2) fun v8 hv8 => ⟨v8, hv8.1, ⟨fun hc => (hv8.2).1 hc, fun hc => X4 _ ((hv8.2).2 hc)⟩⟩)⟩), fun hc => (h).2 hc⟩) (fun _ _ X4 s4 => GM.cond (GM.ex fun v7 => GM.ex fun v8 => GM.cond (GM.ret _) (X4 _)) (J1 _)))) (J1 _))) Post h
theorem c_ref22_lists (a0 : T_api_Op) (a1 : Bool) (a2 : Bool) (r : Int) (h : R_ref22_lists a0 a1 a2 r) : Contract Try.prog 27 [.agg (e_api_Op a0), .c (.v (.bool (a1))), .c (.v (.bool (a2)))] [.c (.p (.v (.int .i64 (r))))] [] := by
  refine contract0 tb Try.func27 rfl (by kernel_rfl) rfl rfl (Nat.le_of_ble_eq_true rfl) rfl ?_
  intro E
  unfold R_ref22_lists W_ref22_lists at h
  refine aw_Q (fun Q hQ => ?_)
  refine tk fun L hL => ?_
  refine u1 (opL_box_a rfl rfl) ?_
  refine asn rfl rfl ?_
  refine rt (hL _ ?_)
  refine aw_jn (fun (p1 : Unit) => (⟨[(2, .c (.p (.v (.bool (a2))))), (3, .c (.ptr (3, 0) 0 0))], [((3, 0), some (.box (List.map CV.p (e_api_Op a0))))]⟩ : St)) h (fun p1 h => ?_) (fun J1 L1 hL1 h => ?_)
  · refine aw_jn (fun (p9 : Unit) => (⟨[], []⟩ : St)) h (fun p9 h => ?_) (fun J9 L9 hL9 h => ?_)
    · refine tk fun L hL => ?_
      refine asn rfl rfl ?_
      refine rt (hL _ ?_)
      obtain rfl := h
      exact aw_ret (hQ _ _ ⟨.inr rfl, _, _, _, (.cons (.p rfl) .nil), (.cons (.c (.p _)) .nil), rfl, rfl⟩)
    · refine tk fun L hL => ?_
      refine mv rfl ?_
      refine rt (hL _ ?_)
      refine cnd rfl h (fun h => ?_) fun h => ?_
      · refine sk fun L10 hL10 => ?_
        refine tk fun L hL => ?_
        refine u0 (opL_fieldp (T := tb) rfl rfl rfl rfl rfl rfl rfl rfl rfl) ?_
        refine u0 (opL_load_box (T := tb) rfl rfl rfl rfl rfl rfl) ?_
        refine u0 (o_len_l (T := tb) rfl rfl rfl rfl) ?_
        obtain ⟨v11, hv11, h⟩ := h
        refine u0 (opL_call0 (c_ref22_within _ _ _ _ hv11) rfl rfl (.cons (.c (.p _)) (.cons (.c (.p _)) (.cons (.c (.p _)) .nil))) rfl rfl rfl) ?_
        refine u0 (opL_not rfl rfl rfl) ?_
        refine rt (hL _ ?_)
        refine cnd rfl h (fun h => ?_) fun h => ?_
        · refine tk fun L hL => ?_
          refine asn rfl rfl ?_
          refine rt (hL _ ?_)
          obtain rfl := h
          exact aw_ret (hQ _ _ ⟨.inr rfl, _, _, _, (.cons (.p rfl) .nil), (.cons (.c (.p _)) .nil), rfl, rfl⟩)
        · refine aw_skip (hL10 _ ?_)
          refine tk fun L hL => ?_
          refine asn rfl rfl ?_
          refine rt (hL _ ?_)
          refine aw_block ?_
          refine aw_lp (fun (s12 : Int) => (⟨[(3, .c (.ptr (3, 0) 0 0)), (8, .c (.p (.v (.int .i64 (s12)))))], [((3, 0), some (.box (List.map CV.p (e_api_Op a0))))]⟩ : St)) h (Sub.nm [3, 8] [((3, 0), (3, 0))] rfl (by kernel_rfl)) (fun X12 L12 hL12 s12 h => ?_)
          refine sk fun L13 hL13 => ?_
          refine tk fun L hL => ?_
          refine mv rfl ?_
          refine u0 (opL_fieldp (T := tb) rfl rfl rfl rfl rfl rfl rfl rfl rfl) ?_
          refine u0 (opL_load_box (T := tb) rfl rfl rfl rfl rfl rfl) ?_
          refine u0 (o_len_l (T := tb) rfl rfl rfl rfl) ?_
          refine u0 (opL_cmp (c := decide ((s12) < (((a0.fItems).length : Int)))) rfl rfl rfl rfl rfl) ?_
          refine rt (hL _ ?_)
          refine cnd rfl h (fun h => ?_) fun h => ?_
          · refine aw_skip (hL13 _ ?_)
            refine sk fun L14 hL14 => ?_
            refine aw_block ?_
            refine tk fun L hL => ?_
            refine u0 (opL_fieldp (T := tb) rfl rfl rfl rfl rfl rfl rfl rfl rfl) ?_
            refine u0 (opL_load_box (T := tb) rfl rfl rfl rfl rfl rfl) ?_
            refine mv rfl ?_
            obtain ⟨v15, hv15, h⟩ := h
            refine u0 (o_idx_l (T := tb) hv15 rfl rfl rfl rfl rfl rfl rfl rfl) ?_
            refine u0 (opL_loads_ep (T := tb) rfl rfl rfl rfl rfl rfl rfl) ?_
            obtain ⟨v16, hv16, h⟩ := h
            refine u0 (opL_call0 (c_ref1_ValidateItem _ _ hv16) rfl rfl (.cons (.agg (.cons (.p _) (.cons (.p _) .nil))) .nil) rfl rfl rfl) ?_
            refine asn rfl rfl ?_
            refine rt (hL _ ?_)
            refine tk fun L hL => ?_
            refine mv rfl ?_
            refine u0 (opL_cmp (c := ((v16) != (0))) rfl rfl rfl rfl rfl) ?_
            refine rt (hL _ ?_)
            refine cnd rfl h (fun h => ?_) fun h => ?_
            · refine tk fun L hL => ?_
              refine mv rfl ?_
              refine asn rfl rfl ?_
              refine rt (hL _ ?_)
              obtain rfl := h
              exact aw_ret (hQ _ _ ⟨.inr rfl, _, _, _, (.cons (.p rfl) .nil), (.cons (.c (.p _)) .nil), rfl, rfl⟩)
            · refine aw_skip (hL14 _ ?_)
              refine tl fun L hL => ?_
              refine mv rfl ?_
              refine u0 (opL_add rfl rfl rfl rfl rfl) ?_
              refine asn rfl rfl ?_
              refine rt (hL _ (hL12 _ _ h (Sub.nm [3, 8] [((3, 0), (3, 0))] rfl (by kernel_rfl))))
          · refine aw_exit (hL9 _ _ h (Sub.nm [] [] rfl (by kernel_rfl)))
      · refine aw_skip (hL9 _ _ h (Sub.nm [] [] rfl (by kernel_rfl)))
  · refine tk fun L hL => ?_
    refine mv rfl ?_
    refine rt (hL _ ?_)
    refine cnd rfl h (fun h => ?_) fun h => ?_
    · refine sk fun L2 hL2 => ?_
      refine tk fun L hL => ?_
      refine u0 (opL_fieldp (T := tb) rfl rfl rfl rfl rfl rfl rfl rfl rfl) ?_
      refine u0 (opL_load_box (T := tb) rfl rfl rfl rfl rfl rfl) ?_
      refine u0 (o_len_l (T := tb) rfl rfl rfl rfl) ?_
      obtain ⟨v3, hv3, h⟩ := h
      refine u0 (opL_call0 (c_ref22_within _ _ _ _ hv3) rfl rfl (.cons (.c (.p _)) (.cons (.c (.p _)) (.cons (.c (.p _)) .nil))) rfl rfl rfl) ?_
      refine u0 (opL_not rfl rfl rfl) ?_
      refine rt (hL _ ?_)
      refine cnd rfl h (fun h => ?_) fun h => ?_
      · refine tk fun L hL => ?_
        refine asn rfl rfl ?_
        refine rt (hL _ ?_)
        obtain rfl := h
        exact aw_ret (hQ _ _ ⟨.inr rfl, _, _, _, (.cons (.p rfl) .nil), (.cons (.c (.p _)) .nil), rfl, rfl⟩)
      · refine aw_skip (hL2 _ ?_)
        refine tk fun L hL => ?_
        refine asn rfl rfl ?_
        refine rt (hL _ ?_)
        refine aw_block ?_
        refine aw_lp (fun (s4 : Int) => (⟨[(2, .c (.p (.v (.bool (a2))))), (3, .c (.ptr (3, 0) 0 0)), (7, .c (.p (.v (.int .i64 (s4)))))], [((3, 0), some (.box (List.map CV.p (e_api_Op a0))))]⟩ : St)) h (Sub.nm [2, 3, 7] [((3, 0), (3, 0))] rfl (by kernel_rfl)) (fun X4 L4 hL4 s4 h => ?_)
        refine sk fun L5 hL5 => ?_
        refine tk fun L hL => ?_
        refine mv rfl ?_
        refine u0 (opL_fieldp (T := tb) rfl rfl rfl rfl rfl rfl rfl rfl rfl) ?_
        refine u0 (opL_load_box (T := tb) rfl rfl rfl rfl rfl rfl) ?_
        refine u0 (o_len_l (T := tb) rfl rfl rfl rfl) ?_
        refine u0 (opL_cmp (c := decide ((s4) < (((a0.fNames).length : Int)))) rfl rfl rfl rfl rfl) ?_
        refine rt (hL _ ?_)
        refine cnd rfl h (fun h => ?_) fun h => ?_
        · refine aw_skip (hL5 _ ?_)
          refine sk fun L6 hL6 => ?_
          refine aw_block ?_
          refine tk fun L hL => ?_
          refine u0 (opL_fieldp (T := tb) rfl rfl rfl rfl rfl rfl rfl rfl rfl) ?_
          refine u0 (opL_load_box (T := tb) rfl rfl rfl rfl rfl rfl) ?_
          refine mv rfl ?_
          obtain ⟨v7, hv7, h⟩ := h
          refine u0 (o_idx_l (T := tb) hv7 rfl rfl rfl rfl rfl rfl rfl rfl) ?_
          refine u0 (opL_load_ep (T := tb) rfl rfl rfl rfl rfl) ?_
          obtain ⟨v8, hv8, h⟩ := h
          refine u0 (opL_call0 (c_ref1_IsName _ _ hv8) rfl rfl (.cons (.c (.p _)) .nil) rfl rfl rfl) ?_
          refine u0 (opL_not rfl rfl rfl) ?_
          refine rt (hL _ ?_)
          refine cnd rfl h (fun h => ?_) fun h => ?_
          · refine tk fun L hL => ?_
            refine asn rfl rfl ?_
            refine rt (hL _ ?_)
            obtain rfl := h
            exact aw_ret (hQ _ _ ⟨.inr rfl, _, _, _, (.cons (.p rfl) .nil), (.cons (.c (.p _)) .nil), rfl, rfl⟩)
          · refine aw_skip (hL6 _ ?_)
            refine tl fun L hL => ?_
            refine mv rfl ?_
            refine u0 (opL_add rfl rfl rfl rfl rfl) ?_
            refine asn rfl rfl ?_
            refine rt (hL _ (hL4 _ _ h (Sub.nm [2, 3, 7] [((3, 0), (3, 0))] rfl (by kernel_rfl))))
        · refine aw_exit (hL1 _ _ h (Sub.nm [2, 3] [((3, 0), (3, 0))] rfl (by kernel_rfl)))
    · refine aw_skip (hL1 _ _ h (Sub.nm [2, 3] [((3, 0), (3, 0))] rfl (by kernel_rfl)))
def W_ref12_within (a0 : Int) (a1 : Int) (a2 : Int) (Q : Bool → Prop) : Prop :=
 Q (((bif decide ((a0) ≥ (a1)) then decide ((a0) ≤ (a2)) else false)))
def R_ref12_within (a0 : Int) (a1 : Int) (a2 : Int) (r : Bool) : Prop := W_ref12_within a0 a1 a2 fun x => r = x
theorem e_ref12_within {a0 : Int} {a1 : Int} {a2 : Int} {Post : Bool → Prop} (h : W_ref12_within a0 a1 a2 Post) : ∃ r, R_ref12_within a0 a1 a2 r ∧ Post r := (show GM (W_ref12_within a0 a1 a2) (W_ref12_within a0 a1 a2) from GM.ret _) Post h
theorem c_ref12_within (a0 : Int) (a1 : Int) (a2 : Int) (r : Bool) (h : R_ref12_within a0 a1 a2 r) : Contract Try.prog 48 [.c (.v (.int .i64 (a0))), .c (.v (.int .i64 (a1))), .c (.v (.int .i64 (a2)))] [.c (.p (.v (.bool (r))))] [] := by
  refine contract0 tb Try.func48 rfl (by kernel_rfl) rfl rfl (Nat.le_of_ble_eq_true rfl) rfl ?_
  intro E
  unfold R_ref12_within W_ref12_within at h
  refine aw_Q (fun Q hQ => ?_)
  refine tk fun L hL => ?_
  refine asn rfl rfl ?_
  refine rt (hL _ ?_)
  refine tk fun L hL => ?_
  refine mv rfl ?_
  refine mv rfl ?_
  refine u0 (opL_cmp (c := decide ((a0) ≥ (a1))) rfl rfl rfl rfl rfl) ?_
  refine mv rfl ?_
  refine run_g rfl rfl beq_t (fun hg => opL_move_c rfl rfl) ?_
  refine run_g rfl rfl beq_t (fun hg => opL_move_c rfl rfl) ?_
  refine run_g rfl rfl beq_t (fun hg => opL_cmp (c := decide ((a0) ≤ (a2))) (gt_t hg) (gt_t hg) rfl rfl rfl) ?_
  refine u0 (opL_pick_gl (v := .bool (decide ((a0) ≤ (a2)))) (w := .bool (false)) rfl rfl beq_t rfl bif_v rfl rfl rfl) ?_
  refine asn rfl rfl ?_
  refine rt (hL _ ?_)
  refine aw_sub (st' := ⟨[(6, .c (.p (.v (.bool ((bif decide ((a0) ≥ (a1)) then decide ((a0) ≤ (a2)) else false))))))], []⟩) (Sub.nm [6] [] rfl rfl) ?_
  obtain rfl := h
  exact aw_ret (hQ _ _ ⟨.inr rfl, _, _, _, (.cons (.p rfl) .nil), (.cons (.c (.p _)) .nil), rfl, rfl⟩)
def W_ref12_ValidateParams (a0 : T_api_Params) (Q : Int → Prop) : Prop :=
 jn (fun (p1 : Bool × Bool × Bool) => (((!(p1.1)) = true → Q ((5))) ∧ ((!(p1.1)) = false → ((((bif !(p1.2.1) then true else !(p1.2.2))) = true → Q ((10))) ∧ (((bif !(p1.2.1) then true else !(p1.2.2))) = false → Q ((0))))))) (fun (J1 : Bool × Bool × Bool → Prop) => (((((a0.fKind) == (1))) = true → (((((a0.fSize) != (0))) = true → Q ((10))) ∧ ((((a0.fSize) != (0))) = false → J1 ((true), (((a0.fDepth) == (0))), (((a0.fSeed) == (0))))))) ∧ ((((a0.fKind) == (1))) = false → (((((a0.fKind) == (2))) = true → ∃ (v2 : Bool), R_ref12_within (a0.fDepth) (1) (8) v2 ∧ ∃ (v3 : Bool), ((v2) = true → R_ref12_within (a0.fSize) (1) (64) v3) ∧ J1 (((bif v2 then v3 else false)), (true), (true))) ∧ ((((a0.fKind) == (2))) = false → (((((a0.fKind) == (3))) = true → ∃ (v4 : Bool), R_ref12_within (a0.fSize) (2) (8) v4 ∧ J1 ((v4), (((a0.fDepth) == (0))), (true))) ∧ ((((a0.fKind) == (3))) = false → jn (fun (p5 : Bool) => (((p5) = true → ∃ (v6 : Bool), R_ref12_within (a0.fSize) (1) (32) v6 ∧ J1 ((v6), (((a0.fDepth) == (0))), (((a0.fSeed) == (0))))) ∧ ((p5) = false → (((((a0.fKind) == (6))) = true → ∃ (v7 : Bool), R_ref12_within (a0.fSize) (2) (32) v7 ∧ J1 (((bif v7 then (((a0.fSize).tmod (2)) == (0)) else false)), (((a0.fDepth) == (0))), (((a0.fSeed) == (0))))) ∧ ((((a0.fKind) == (6))) = false → Q ((8))))))) (fun (J5 : Bool → Prop) => (((((a0.fKind) == (4))) = true → J5 ((((a0.fKind) == (4))))) ∧ ((((a0.fKind) == (4))) = false → J5 ((((a0.fKind) == (5))))))))))))))
def R_ref12_ValidateParams (a0 : T_api_Params) (r : Int) : Prop := W_ref12_ValidateParams a0 fun x => r = x
theorem e_ref12_ValidateParams {a0 : T_api_Params} {Post : Int → Prop} (h : W_ref12_ValidateParams a0 Post) : ∃ r, R_ref12_ValidateParams a0 r ∧ Post r := (show GM (W_ref12_ValidateParams a0) (W_ref12_ValidateParams a0) from GM.join (fun p1 => GM.cond (GM.ret _) (GM.cond (GM.ret _) (GM.ret _))) (fun _ _ J1 => GM.cond (GM.cond (GM.ret _) (J1 _)) (GM.cond (GM.ex fun v2 => GM.ex fun v3 => J1 _) (GM.cond (GM.ex fun v4 => J1 _) (GM.join (fun p5 => GM.cond (GM.ex fun v6 => J1 _) (GM.cond (GM.ex fun v7 => J1 _) (GM.ret _))) (fun _ _ J5 => GM.cond (J5 _) (J5 _))))))) Post h
theorem c_ref12_ValidateParams (a0 : T_api_Params) (r : Int) (h : R_ref12_ValidateParams a0 r) : Contract Try.prog 28 [.agg (e_api_Params a0)] [.c (.p (.v (.int .i64 (r))))] [] := by
  refine contract0 tb Try.func28 rfl (by kernel_rfl) rfl rfl (Nat.le_of_ble_eq_true rfl) rfl ?_
  intro E
  unfold R_ref12_ValidateParams W_ref12_ValidateParams at h
  refine aw_Q (fun Q hQ => ?_)
  refine tk fun L hL => ?_
  refine u1 (opL_box_a rfl rfl) ?_
  refine asn rfl rfl ?_
  refine rt (hL _ ?_)
  refine dk mixed (fun L hL => ?_)
  refine u0 (opL_fieldp (T := tb) rfl rfl rfl rfl rfl rfl rfl rfl rfl) ?_
  refine u0 (opL_load_box (T := tb) rfl rfl rfl rfl rfl rfl) ?_
  refine u0 (opL_cmp (c := ((a0.fDepth) == (0))) rfl rfl rfl rfl rfl) ?_
  refine u0 (opL_fieldp (T := tb) rfl rfl rfl rfl rfl rfl rfl rfl rfl) ?_
  refine u0 (opL_load_box (T := tb) rfl rfl rfl rfl rfl rfl) ?_
  refine u0 (opL_cmp (c := ((a0.fSeed) == (0))) rfl rfl rfl rfl rfl) ?_
  refine asn rfl rfl ?_
  refine asn rfl rfl ?_
  refine asn rfl rfl ?_
  refine rd (hL _ ?_)
  refine aw_jn (fun (p1 : Bool × Bool × Bool) => (⟨[(3, .c (.p (.v (.bool (p1.1))))), (4, .c (.p (.v (.bool (p1.2.1))))), (5, .c (.p (.v (.bool (p1.2.2)))))], []⟩ : St)) h (fun p1 h => ?_) (fun J1 L1 hL1 h => ?_)
  · refine sk fun L8 hL8 => ?_
    refine tk fun L hL => ?_
    refine mv rfl ?_
    refine u0 (opL_not rfl rfl rfl) ?_
    refine rt (hL _ ?_)
    refine cnd rfl h (fun h => ?_) fun h => ?_
    · refine tk fun L hL => ?_
      refine asn rfl rfl ?_
      refine rt (hL _ ?_)
      obtain rfl := h
      exact aw_ret (hQ _ _ ⟨.inr rfl, _, _, _, (.cons (.p rfl) .nil), (.cons (.c (.p _)) .nil), rfl, rfl⟩)
    · refine aw_skip (hL8 _ ?_)
      refine sk fun L9 hL9 => ?_
      refine tk fun L hL => ?_
      refine mv rfl ?_
      refine u0 (opL_not rfl rfl rfl) ?_
      refine mv rfl ?_
      refine run_g rfl rfl beq_f (fun hg => opL_move_c rfl rfl) ?_
      refine run_g rfl rfl beq_f (fun hg => opL_not (gt_t hg) rfl rfl) ?_
      refine u0 (opL_pick_gr (v := .bool (true)) (w := .bool (!(p1.2.2))) rfl rfl beq_f rfl bif_v rfl rfl rfl) ?_
      refine rt (hL _ ?_)
      refine aw_sub (st' := ⟨[(58, .c (.p (.v (.bool ((bif !(p1.2.1) then true else !(p1.2.2)))))))], []⟩) (Sub.nm [58] [] rfl rfl) ?_
      refine cnd rfl h (fun h => ?_) fun h => ?_
      · refine tk fun L hL => ?_
        refine asn rfl rfl ?_
        refine rt (hL _ ?_)
        obtain rfl := h
        exact aw_ret (hQ _ _ ⟨.inr rfl, _, _, _, (.cons (.p rfl) .nil), (.cons (.c (.p _)) .nil), rfl, rfl⟩)
      · refine aw_skip (hL9 _ ?_)
        refine tk fun L hL => ?_
        refine asn rfl rfl ?_
        refine rt (hL _ ?_)
        obtain rfl := h
        exact aw_ret (hQ _ _ ⟨.inr rfl, _, _, _, (.cons (.p rfl) .nil), (.cons (.c (.p _)) .nil), rfl, rfl⟩)
  · refine tk fun L hL => ?_
    refine u0 (opL_fieldp (T := tb) rfl rfl rfl rfl rfl rfl rfl rfl rfl) ?_
    refine u0 (opL_load_box (T := tb) rfl rfl rfl rfl rfl rfl) ?_
    refine rt (hL _ ?_)
    refine aw_block ?_
    refine tk fun L hL => ?_
    refine u0 (opL_cmp (c := ((a0.fKind) == (1))) rfl rfl rfl rfl rfl) ?_
    refine asn rfl rfl ?_
    refine rt (hL _ ?_)
    refine cnd rfl h (fun h => ?_) fun h => ?_
    · refine tk fun L hL => ?_
      refine u0 (opL_fieldp (T := tb) rfl rfl rfl rfl rfl rfl rfl rfl rfl) ?_
      refine u0 (opL_load_box (T := tb) rfl rfl rfl rfl rfl rfl) ?_
      refine u0 (opL_cmp (c := ((a0.fSize) != (0))) rfl rfl rfl rfl rfl) ?_
      refine rt (hL _ ?_)
      refine cnd rfl h (fun h => ?_) fun h => ?_
      · refine tk fun L hL => ?_
        refine asn rfl rfl ?_
        refine rt (hL _ ?_)
        obtain rfl := h
        exact aw_ret (hQ _ _ ⟨.inr rfl, _, _, _, (.cons (.p rfl) .nil), (.cons (.c (.p _)) .nil), rfl, rfl⟩)
      · refine aw_skip (hL1 _ _ h (Sub.nm [3, 4, 5] [] rfl (by kernel_rfl)))
    · refine tk fun L hL => ?_
      refine u0 (opL_cmp (c := ((a0.fKind) == (2))) rfl rfl rfl rfl rfl) ?_
      refine asn rfl rfl ?_
      refine rt (hL _ ?_)
      refine cnd rfl h (fun h => ?_) fun h => ?_
      · refine tl fun L hL => ?_
        refine u0 (opL_fieldp (T := tb) rfl rfl rfl rfl rfl rfl rfl rfl rfl) ?_
        refine u0 (opL_load_box (T := tb) rfl rfl rfl rfl rfl rfl) ?_
        obtain ⟨v2, hv2, h⟩ := h
        refine u0 (opL_call0 (c_ref12_within _ _ _ _ hv2) rfl rfl (.cons (.c (.p _)) (.cons (.c (.p _)) (.cons (.c (.p _)) .nil))) rfl rfl rfl) ?_
        refine mv rfl ?_
        refine run_g rfl rfl beq_t (fun hg => opL_fieldp (T := tb) rfl rfl rfl rfl rfl rfl rfl rfl rfl) ?_
        refine run_g rfl rfl beq_t (fun hg => opL_load_box (T := tb) (gt_t hg) rfl rfl rfl rfl rfl) ?_
        obtain ⟨v3, hv3, h⟩ := h
        refine run_g rfl rfl beq_t (fun hg => opL_call0 (c_ref12_within _ _ _ _ (hv3 hg)) rfl rfl (.cons (toA_g hg (.c (.p _))) (.cons (.c (.p _)) (.cons (.c (.p _)) .nil))) rfl rfl rfl) ?_
        refine u0 (opL_pick_gl (v := .bool (v3)) (w := .bool (false)) rfl rfl beq_t rfl bif_v rfl rfl rfl) ?_
        refine asn rfl rfl ?_
        refine asn rfl rfl ?_
        refine asn rfl rfl ?_
        refine rt (hL _ (hL1 _ _ h (Sub.nm [3, 4, 5] [] rfl (by kernel_rfl))))
      · refine tk fun L hL => ?_
        refine u0 (opL_cmp (c := ((a0.fKind) == (3))) rfl rfl rfl rfl rfl) ?_
        refine asn rfl rfl ?_
        refine rt (hL _ ?_)
        refine cnd rfl h (fun h => ?_) fun h => ?_
        · refine tl fun L hL => ?_
          refine u0 (opL_fieldp (T := tb) rfl rfl rfl rfl rfl rfl rfl rfl rfl) ?_
          refine u0 (opL_load_box (T := tb) rfl rfl rfl rfl rfl rfl) ?_
          obtain ⟨v4, hv4, h⟩ := h
          refine u0 (opL_call0 (c_ref12_within _ _ _ _ hv4) rfl rfl (.cons (.c (.p _)) (.cons (.c (.p _)) (.cons (.c (.p _)) .nil))) rfl rfl rfl) ?_
          refine asn rfl rfl ?_
          refine asn rfl rfl ?_
          refine rt (hL _ (hL1 _ _ h (Sub.nm [3, 4, 5] [] rfl (by kernel_rfl))))
        · refine aw_jn (fun (p5 : Bool) => (⟨[(1, .c (.ptr (1, 0) 0 0)), (4, .c (.p (.v (.bool (((a0.fDepth) == (0))))))), (5, .c (.p (.v (.bool (((a0.fSeed) == (0))))))), (13, .c (.p (.v (.int .i64 (a0.fKind))))), (34, .c (.p (.v (.bool (p5)))))], [((1, 0), some (.box (List.map CV.p (e_api_Params a0))))]⟩ : St)) h (fun p5 h => ?_) (fun J5 L5 hL5 h => ?_)
          · refine cnd rfl h (fun h => ?_) fun h => ?_
            · refine tl fun L hL => ?_
              refine u0 (opL_fieldp (T := tb) rfl rfl rfl rfl rfl rfl rfl rfl rfl) ?_
              refine u0 (opL_load_box (T := tb) rfl rfl rfl rfl rfl rfl) ?_
              obtain ⟨v6, hv6, h⟩ := h
              refine u0 (opL_call0 (c_ref12_within _ _ _ _ hv6) rfl rfl (.cons (.c (.p _)) (.cons (.c (.p _)) (.cons (.c (.p _)) .nil))) rfl rfl rfl) ?_
              refine asn rfl rfl ?_
              refine rt (hL _ (hL1 _ _ h (Sub.nm [3, 4, 5] [] rfl (by kernel_rfl))))
            · refine tk fun L hL => ?_
              refine u0 (opL_cmp (c := ((a0.fKind) == (6))) rfl rfl rfl rfl rfl) ?_
              refine asn rfl rfl ?_
              refine rt (hL _ ?_)
              refine cnd rfl h (fun h => ?_) fun h => ?_
              · refine tl fun L hL => ?_
                refine u0 (opL_fieldp (T := tb) rfl rfl rfl rfl rfl rfl rfl rfl rfl) ?_
                refine u0 (opL_load_box (T := tb) rfl rfl rfl rfl rfl rfl) ?_
                obtain ⟨v7, hv7, h⟩ := h
                refine u0 (opL_call0 (c_ref12_within _ _ _ _ hv7) rfl rfl (.cons (.c (.p _)) (.cons (.c (.p _)) (.cons (.c (.p _)) .nil))) rfl rfl rfl) ?_
                refine mv rfl ?_
                refine run_g rfl rfl beq_t (fun hg => opL_fieldp (T := tb) rfl rfl rfl rfl rfl rfl rfl rfl rfl) ?_
                refine run_g rfl rfl beq_t (fun hg => opL_load_box (T := tb) (gt_t hg) rfl rfl rfl rfl rfl) ?_
                refine run_g rfl rfl beq_t (fun hg => o_rem (by decide) (gt_t hg) rfl rfl rfl) ?_
                refine run_g rfl rfl beq_t (fun hg => opL_cmp (c := (((a0.fSize).tmod (2)) == (0))) (gt_t hg) rfl rfl rfl rfl) ?_
                refine u0 (opL_pick_gl (v := .bool ((((a0.fSize).tmod (2)) == (0)))) (w := .bool (false)) rfl rfl beq_t rfl bif_v rfl rfl rfl) ?_
                refine asn rfl rfl ?_
                refine rt (hL _ (hL1 _ _ h (Sub.nm [3, 4, 5] [] rfl (by kernel_rfl))))
              · refine tk fun L hL => ?_
                refine asn rfl rfl ?_
                refine rt (hL _ ?_)
                obtain rfl := h
                exact aw_ret (hQ _ _ ⟨.inr rfl, _, _, _, (.cons (.p rfl) .nil), (.cons (.c (.p _)) .nil), rfl, rfl⟩)
          · refine tk fun L hL => ?_
            refine u0 (opL_cmp (c := ((a0.fKind) == (4))) rfl rfl rfl rfl rfl) ?_
            refine asn rfl rfl ?_
            refine rt (hL _ ?_)
            refine cnd rfl h (fun h => ?_) fun h => ?_
            · refine aw_skip (hL5 _ _ h (Sub.nm [1, 4, 5, 13, 34] [((1, 0), (1, 0))] rfl (by kernel_rfl)))
            · refine tl fun L hL => ?_
              refine u0 (opL_cmp (c := ((a0.fKind) == (5))) rfl rfl rfl rfl rfl) ?_
              refine asn rfl rfl ?_
              refine rt (hL _ (hL5 _ _ h (Sub.nm [1, 4, 5, 13, 34] [((1, 0), (1, 0))] rfl (by kernel_rfl))))
def W_ref12_ValidateQuery (a0 : T_api_Query) (Q : Int → Prop) : Prop :=
 ∃ (v2 : Bool), R_ref12_within (a0.fKind) (1) (7) v2 ∧ (((!(v2)) = true → Q ((8))) ∧ ((!(v2)) = false → ∃ (v3 : Bool), (((bif ((a0.fKind) == (2)) then true else ((a0.fKind) == (6)))) = true → R_ref1_IsKey (a0.fKey) v3) ∧ ((((bif (bif ((a0.fKind) == (2)) then true else ((a0.fKind) == (6))) then !(v3) else false)) = true → Q ((7))) ∧ (((bif (bif ((a0.fKind) == (2)) then true else ((a0.fKind) == (6))) then !(v3) else false)) = false → ∃ (v4 : Bool), ((((a0.fKind) == (5))) = true → R_ref12_within (a0.fCount) (0) (32) v4) ∧ ((((bif ((a0.fKind) == (5)) then !(v4) else false)) = true → Q ((5))) ∧ (((bif ((a0.fKind) == (5)) then !(v4) else false)) = false → ∃ (v5 : Bool), ((((a0.fKind) == (7))) = true → R_ref12_within (a0.fDen) (1) (1000000) v5) ∧ ∃ (v6 : Bool), (((((a0.fKind) == (7)) && !(!(v5)))) = true → R_ref12_within (a0.fNum) (0) (a0.fDen) v6) ∧ ((((bif ((a0.fKind) == (7)) then (bif !(v5) then true else !(v6)) else false)) = true → Q ((5))) ∧ (((bif ((a0.fKind) == (7)) then (bif !(v5) then true else !(v6)) else false)) = false → ((((bif (bif (bif !((bif ((a0.fKind) == (2)) then true else ((a0.fKind) == (6)))) then (!((a0.fKey).toList == ((⟨#[]⟩ : ByteArray)).toList)) else false) then true else (bif ((a0.fKind) != (5)) then ((a0.fCount) != (0)) else false)) then true else (bif ((a0.fKind) != (7)) then (bif ((a0.fNum) != (0)) then true else ((a0.fDen) != (0))) else false))) = true → Q ((18))) ∧ (((bif (bif (bif !((bif ((a0.fKind) == (2)) then true else ((a0.fKind) == (6)))) then (!((a0.fKey).toList == ((⟨#[]⟩ : ByteArray)).toList)) else false) then true else (bif ((a0.fKind) != (5)) then ((a0.fCount) != (0)) else false)) then true else (bif ((a0.fKind) != (7)) then (bif ((a0.fNum) != (0)) then true else ((a0.fDen) != (0))) else false))) = false → Q ((0))))))))))))
def R_ref12_ValidateQuery (a0 : T_api_Query) (r : Int) : Prop := W_ref12_ValidateQuery a0 fun x => r = x
theorem e_ref12_ValidateQuery {a0 : T_api_Query} {Post : Int → Prop} (h : W_ref12_ValidateQuery a0 Post) : ∃ r, R_ref12_ValidateQuery a0 r ∧ Post r := (show GM (W_ref12_ValidateQuery a0) (W_ref12_ValidateQuery a0) from GM.ex fun v2 => GM.cond (GM.ret _) (GM.ex fun v3 => GM.cond (GM.ret _) (GM.ex fun v4 => GM.cond (GM.ret _) (GM.ex fun v5 => GM.ex fun v6 => GM.cond (GM.ret _) (GM.cond (GM.ret _) (GM.ret _)))))) Post h
theorem c_ref12_ValidateQuery (a0 : T_api_Query) (r : Int) (h : R_ref12_ValidateQuery a0 r) : Contract Try.prog 29 [.agg (e_api_Query a0)] [.c (.p (.v (.int .i64 (r))))] [] := by
  refine contract0 tb Try.func29 rfl (by kernel_rfl) rfl rfl (Nat.le_of_ble_eq_true rfl) rfl ?_
  intro E
  unfold R_ref12_ValidateQuery W_ref12_ValidateQuery at h
  refine aw_Q (fun Q hQ => ?_)
  refine tk fun L hL => ?_
  refine u1 (opL_box_a rfl rfl) ?_
  refine asn rfl rfl ?_
  refine rt (hL _ ?_)
  refine tk fun L hL => ?_
  refine u0 (opL_fieldp (T := tb) rfl rfl rfl rfl rfl rfl rfl rfl rfl) ?_
  refine u0 (opL_load_box (T := tb) rfl rfl rfl rfl rfl rfl) ?_
  refine u0 (opL_cmp (c := ((a0.fKind) == (2))) rfl rfl rfl rfl rfl) ?_
  refine mv rfl ?_
  refine run_g rfl rfl beq_f (fun hg => opL_fieldp (T := tb) rfl rfl rfl rfl rfl rfl rfl rfl rfl) ?_
  refine run_g rfl rfl beq_f (fun hg => opL_load_box (T := tb) (gt_t hg) rfl rfl rfl rfl rfl) ?_
  refine run_g rfl rfl beq_f (fun hg => opL_cmp (c := ((a0.fKind) == (6))) (gt_t hg) rfl rfl rfl rfl) ?_
  refine u0 (opL_pick_gr (v := .bool (true)) (w := .bool (((a0.fKind) == (6)))) rfl rfl beq_f rfl bif_v rfl rfl rfl) ?_
  refine asn rfl rfl ?_
  refine rt (hL _ ?_)
  refine aw_sub (st' := ⟨[(1, .c (.ptr (1, 0) 0 0)), (3, .c (.p (.v (.bool ((bif ((a0.fKind) == (2)) then true else ((a0.fKind) == (6))))))))], [((1, 0), some (.box (List.map CV.p (e_api_Query a0))))]⟩) (Sub.nm [1, 3] [((1, 0), (1, 0))] rfl rfl) ?_
  refine sk fun L1 hL1 => ?_
  refine aw_block ?_
  refine tk fun L hL => ?_
  refine u0 (opL_fieldp (T := tb) rfl rfl rfl rfl rfl rfl rfl rfl rfl) ?_
  refine u0 (opL_load_box (T := tb) rfl rfl rfl rfl rfl rfl) ?_
  obtain ⟨v2, hv2, h⟩ := h
  refine u0 (opL_call0 (c_ref12_within _ _ _ _ hv2) rfl rfl (.cons (.c (.p _)) (.cons (.c (.p _)) (.cons (.c (.p _)) .nil))) rfl rfl rfl) ?_
  refine u0 (opL_not rfl rfl rfl) ?_
  refine asn rfl rfl ?_
  refine rt (hL _ ?_)
  refine cnd rfl h (fun h => ?_) fun h => ?_
  · refine tk fun L hL => ?_
    refine asn rfl rfl ?_
    refine rt (hL _ ?_)
    obtain rfl := h
    exact aw_ret (hQ _ _ ⟨.inr rfl, _, _, _, (.cons (.p rfl) .nil), (.cons (.c (.p _)) .nil), rfl, rfl⟩)
  · refine tk fun L hL => ?_
    refine mv rfl ?_
    refine mv rfl ?_
    refine run_g rfl rfl beq_t (fun hg => opL_fieldp (T := tb) rfl rfl rfl rfl rfl rfl rfl rfl rfl) ?_
    refine run_g rfl rfl beq_t (fun hg => opL_load_box (T := tb) (gt_t hg) rfl rfl rfl rfl rfl) ?_
    obtain ⟨v3, hv3, h⟩ := h
    refine run_g rfl rfl beq_t (fun hg => opL_call0 (c_ref1_IsKey _ _ (hv3 hg)) rfl rfl (.cons (toA_g hg (.c (.p _))) .nil) rfl rfl rfl) ?_
    refine run_g rfl rfl beq_t (fun hg => opL_not (gt_t hg) rfl rfl) ?_
    refine u0 (opL_pick_gl (v := .bool (!(v3))) (w := .bool (false)) rfl rfl beq_t rfl bif_v rfl rfl rfl) ?_
    refine asn rfl rfl ?_
    refine rt (hL _ ?_)
    refine aw_sub (st' := ⟨[(1, .c (.ptr (1, 0) 0 0)), (3, .c (.p (.v (.bool ((bif ((a0.fKind) == (2)) then true else ((a0.fKind) == (6)))))))), (17, .c (.p (.v (.bool ((bif (bif ((a0.fKind) == (2)) then true else ((a0.fKind) == (6))) then !(v3) else false))))))], [((1, 0), some (.box (List.map CV.p (e_api_Query a0))))]⟩) (Sub.nm [1, 3, 17] [((1, 0), (1, 0))] rfl rfl) ?_
    refine cnd rfl h (fun h => ?_) fun h => ?_
    · refine tk fun L hL => ?_
      refine asn rfl rfl ?_
      refine rt (hL _ ?_)
      obtain rfl := h
      exact aw_ret (hQ _ _ ⟨.inr rfl, _, _, _, (.cons (.p rfl) .nil), (.cons (.c (.p _)) .nil), rfl, rfl⟩)
    · refine tk fun L hL => ?_
      refine u0 (opL_fieldp (T := tb) rfl rfl rfl rfl rfl rfl rfl rfl rfl) ?_
      refine u0 (opL_load_box (T := tb) rfl rfl rfl rfl rfl rfl) ?_
      refine u0 (opL_cmp (c := ((a0.fKind) == (5))) rfl rfl rfl rfl rfl) ?_
      refine mv rfl ?_
      refine run_g rfl rfl beq_t (fun hg => opL_fieldp (T := tb) rfl rfl rfl rfl rfl rfl rfl rfl rfl) ?_
      refine run_g rfl rfl beq_t (fun hg => opL_load_box (T := tb) (gt_t hg) rfl rfl rfl rfl rfl) ?_
      obtain ⟨v4, hv4, h⟩ := h
      refine run_g rfl rfl beq_t (fun hg => opL_call0 (c_ref12_within _ _ _ _ (hv4 hg)) rfl rfl (.cons (toA_g hg (.c (.p _))) (.cons (.c (.p _)) (.cons (.c (.p _)) .nil))) rfl rfl rfl) ?_
      refine run_g rfl rfl beq_t (fun hg => opL_not (gt_t hg) rfl rfl) ?_
      refine u0 (opL_pick_gl (v := .bool (!(v4))) (w := .bool (false)) rfl rfl beq_t rfl bif_v rfl rfl rfl) ?_
      refine asn rfl rfl ?_
      refine rt (hL _ ?_)
      refine aw_sub (st' := ⟨[(1, .c (.ptr (1, 0) 0 0)), (3, .c (.p (.v (.bool ((bif ((a0.fKind) == (2)) then true else ((a0.fKind) == (6)))))))), (25, .c (.p (.v (.bool ((bif ((a0.fKind) == (5)) then !(v4) else false))))))], [((1, 0), some (.box (List.map CV.p (e_api_Query a0))))]⟩) (Sub.nm [1, 3, 25] [((1, 0), (1, 0))] rfl rfl) ?_
      refine cnd rfl h (fun h => ?_) fun h => ?_
      · refine tk fun L hL => ?_
        refine asn rfl rfl ?_
        refine rt (hL _ ?_)
        obtain rfl := h
        exact aw_ret (hQ _ _ ⟨.inr rfl, _, _, _, (.cons (.p rfl) .nil), (.cons (.c (.p _)) .nil), rfl, rfl⟩)
      · refine tk fun L hL => ?_
        refine u0 (opL_fieldp (T := tb) rfl rfl rfl rfl rfl rfl rfl rfl rfl) ?_
        refine u0 (opL_load_box (T := tb) rfl rfl rfl rfl rfl rfl) ?_
        refine u0 (opL_cmp (c := ((a0.fKind) == (7))) rfl rfl rfl rfl rfl) ?_
        refine mv rfl ?_
        refine run_g rfl rfl beq_t (fun hg => opL_fieldp (T := tb) rfl rfl rfl rfl rfl rfl rfl rfl rfl) ?_
        refine run_g rfl rfl beq_t (fun hg => opL_load_box (T := tb) (gt_t hg) rfl rfl rfl rfl rfl) ?_
        obtain ⟨v5, hv5, h⟩ := h
        refine run_g rfl rfl beq_t (fun hg => opL_call0 (c_ref12_within _ _ _ _ (hv5 hg)) rfl rfl (.cons (toA_g hg (.c (.p _))) (.cons (.c (.p _)) (.cons (.c (.p _)) .nil))) rfl rfl rfl) ?_
        refine run_g rfl rfl beq_t (fun hg => opL_not (gt_t hg) rfl rfl) ?_
        refine run_g rfl rfl beq_t (fun hg => opL_move_c (gt_t hg) rfl) ?_
        refine run_gn rfl rfl gand_f (fun hg => opL_fieldp (T := tb) rfl rfl rfl rfl rfl rfl rfl rfl rfl) ?_
        refine run_gn rfl rfl gand_f (fun hg => opL_load_box (T := tb) (gt_t hg) rfl rfl rfl rfl rfl) ?_
        refine run_gn rfl rfl gand_f (fun hg => opL_fieldp (T := tb) rfl rfl rfl rfl rfl rfl rfl rfl rfl) ?_
        refine run_gn rfl rfl gand_f (fun hg => opL_load_box (T := tb) (gt_t hg) rfl rfl rfl rfl rfl) ?_
        obtain ⟨v6, hv6, h⟩ := h
        refine run_gn rfl rfl gand_f (fun hg => opL_call0 (c_ref12_within _ _ _ _ (hv6 hg)) rfl rfl (.cons (toA_g hg (.c (.p _))) (.cons (.c (.p _)) (.cons (toA_g hg (.c (.p _))) .nil))) rfl rfl rfl) ?_
        refine run_gn rfl rfl gand_f (fun hg => opL_not (gt_t hg) rfl rfl) ?_
        refine run_g rfl rfl beq_t (fun hg => opL_pick_gr (v := .bool (true)) (w := .bool (!(v6))) (gt_t hg) rfl (beq_fn hg) rfl bif_v rfl rfl rfl) ?_
        refine u0 (opL_pick_gl (v := .bool ((bif !(v5) then true else !(v6)))) (w := .bool (false)) rfl rfl beq_t rfl bif_v rfl rfl rfl) ?_
        refine asn rfl rfl ?_
        refine rt (hL _ ?_)
        refine aw_sub (st' := ⟨[(1, .c (.ptr (1, 0) 0 0)), (3, .c (.p (.v (.bool ((bif ((a0.fKind) == (2)) then true else ((a0.fKind) == (6)))))))), (35, .c (.p (.v (.bool ((bif ((a0.fKind) == (7)) then (bif !(v5) then true else !(v6)) else false))))))], [((1, 0), some (.box (List.map CV.p (e_api_Query a0))))]⟩) (Sub.nm [1, 3, 35] [((1, 0), (1, 0))] rfl rfl) ?_
        refine cnd rfl h (fun h => ?_) fun h => ?_
        · refine tk fun L hL => ?_
          refine asn rfl rfl ?_
          refine rt (hL _ ?_)
          obtain rfl := h
          exact aw_ret (hQ _ _ ⟨.inr rfl, _, _, _, (.cons (.p rfl) .nil), (.cons (.c (.p _)) .nil), rfl, rfl⟩)
        · refine tk fun L hL => ?_
          refine mv rfl ?_
          refine u0 (opL_not rfl rfl rfl) ?_
          refine mv rfl ?_
          refine run_g rfl rfl beq_t (fun hg => opL_fieldp (T := tb) rfl rfl rfl rfl rfl rfl rfl rfl rfl) ?_
          refine run_g rfl rfl beq_t (fun hg => opL_load_box (T := tb) (gt_t hg) rfl rfl rfl rfl rfl) ?_
          refine run_g rfl rfl beq_t (fun hg => opL_str (c := (!((a0.fKey).toList == ((⟨#[]⟩ : ByteArray)).toList))) (gt_t hg) rfl rfl rfl rfl) ?_
          refine u0 (opL_pick_gl (v := .bool ((!((a0.fKey).toList == ((⟨#[]⟩ : ByteArray)).toList)))) (w := .bool (false)) rfl rfl beq_t rfl bif_v rfl rfl rfl) ?_
          refine mv rfl ?_
          refine run_g rfl rfl beq_f (fun hg => opL_fieldp (T := tb) rfl rfl rfl rfl rfl rfl rfl rfl rfl) ?_
          refine run_g rfl rfl beq_f (fun hg => opL_load_box (T := tb) (gt_t hg) rfl rfl rfl rfl rfl) ?_
          refine run_g rfl rfl beq_f (fun hg => opL_cmp (c := ((a0.fKind) != (5))) (gt_t hg) rfl rfl rfl rfl) ?_
          refine run_g rfl rfl beq_f (fun hg => opL_move_c (gt_t hg) rfl) ?_
          refine run_gn rfl rfl gand_t (fun hg => opL_fieldp (T := tb) rfl rfl rfl rfl rfl rfl rfl rfl rfl) ?_
          refine run_gn rfl rfl gand_t (fun hg => opL_load_box (T := tb) (gt_t hg) rfl rfl rfl rfl rfl) ?_
          refine run_gn rfl rfl gand_t (fun hg => opL_cmp (c := ((a0.fCount) != (0))) (gt_t hg) rfl rfl rfl rfl) ?_
          refine run_g rfl rfl beq_f (fun hg => opL_pick_gl (v := .bool (((a0.fCount) != (0)))) (w := .bool (false)) (gt_t hg) rfl (beq_tn hg) rfl bif_v rfl rfl rfl) ?_
          refine u0 (opL_pick_gr (v := .bool (true)) (w := .bool ((bif ((a0.fKind) != (5)) then ((a0.fCount) != (0)) else false))) rfl rfl beq_f rfl bif_v rfl rfl rfl) ?_
          refine mv rfl ?_
          refine run_g rfl rfl beq_f (fun hg => opL_fieldp (T := tb) rfl rfl rfl rfl rfl rfl rfl rfl rfl) ?_
          refine run_g rfl rfl beq_f (fun hg => opL_load_box (T := tb) (gt_t hg) rfl rfl rfl rfl rfl) ?_
          refine run_g rfl rfl beq_f (fun hg => opL_cmp (c := ((a0.fKind) != (7))) (gt_t hg) rfl rfl rfl rfl) ?_
          refine run_g rfl rfl beq_f (fun hg => opL_move_c (gt_t hg) rfl) ?_
          refine run_gn rfl rfl gand_t (fun hg => opL_fieldp (T := tb) rfl rfl rfl rfl rfl rfl rfl rfl rfl) ?_
          refine run_gn rfl rfl gand_t (fun hg => opL_load_box (T := tb) (gt_t hg) rfl rfl rfl rfl rfl) ?_
          refine run_gn rfl rfl gand_t (fun hg => opL_cmp (c := ((a0.fNum) != (0))) (gt_t hg) rfl rfl rfl rfl) ?_
          refine run_gn rfl rfl gand_t (fun hg => opL_move_c (gt_t hg) rfl) ?_
          refine run_gn rfl rfl gand_f (fun hg => opL_fieldp (T := tb) rfl rfl rfl rfl rfl rfl rfl rfl rfl) ?_
          refine run_gn rfl rfl gand_f (fun hg => opL_load_box (T := tb) (gt_t hg) rfl rfl rfl rfl rfl) ?_
          refine run_gn rfl rfl gand_f (fun hg => opL_cmp (c := ((a0.fDen) != (0))) (gt_t hg) rfl rfl rfl rfl) ?_
          refine run_gn rfl rfl gand_t (fun hg => opL_pick_gr (v := .bool (true)) (w := .bool (((a0.fDen) != (0)))) (gt_t hg) rfl (beq_fn hg) rfl bif_v rfl rfl rfl) ?_
          refine run_g rfl rfl beq_f (fun hg => opL_pick_gl (v := .bool ((bif ((a0.fNum) != (0)) then true else ((a0.fDen) != (0))))) (w := .bool (false)) (gt_t hg) rfl (beq_tn hg) rfl bif_v rfl rfl rfl) ?_
          refine u0 (opL_pick_gr (v := .bool (true)) (w := .bool ((bif ((a0.fKind) != (7)) then (bif ((a0.fNum) != (0)) then true else ((a0.fDen) != (0))) else false))) rfl rfl beq_f rfl bif_v rfl rfl rfl) ?_
          refine asn rfl rfl ?_
          refine rt (hL _ ?_)
          refine aw_sub (st' := ⟨[(53, .c (.p (.v (.bool ((bif (bif (bif !((bif ((a0.fKind) == (2)) then true else ((a0.fKind) == (6)))) then (!((a0.fKey).toList == ((⟨#[]⟩ : ByteArray)).toList)) else false) then true else (bif ((a0.fKind) != (5)) then ((a0.fCount) != (0)) else false)) then true else (bif ((a0.fKind) != (7)) then (bif ((a0.fNum) != (0)) then true else ((a0.fDen) != (0))) else false)))))))], []⟩) (Sub.nm [53] [] rfl rfl) ?_
          refine cnd rfl h (fun h => ?_) fun h => ?_
          · refine tk fun L hL => ?_
            refine asn rfl rfl ?_
            refine rt (hL _ ?_)
            obtain rfl := h
            exact aw_ret (hQ _ _ ⟨.inr rfl, _, _, _, (.cons (.p rfl) .nil), (.cons (.c (.p _)) .nil), rfl, rfl⟩)
          · refine aw_skip (hL1 _ ?_)
            refine tk fun L hL => ?_
            refine asn rfl rfl ?_
            refine rt (hL _ ?_)
            obtain rfl := h
            exact aw_ret (hQ _ _ ⟨.inr rfl, _, _, _, (.cons (.p rfl) .nil), (.cons (.c (.p _)) .nil), rfl, rfl⟩)
def W_ref22_Validate (a0 : T_api_Op) (Q : Int → Prop) : Prop :=
 ∃ (v2 : Bool), R_ref22_within (a0.fKind) (1) (17) v2 ∧ (((!(v2)) = true → Q ((8))) ∧ ((!(v2)) = false → ∃ (v3 : T_A13_Bool), R_ref22_Uses (a0.fKind) v3 ∧ ∃ (v5 : Bool), ((v3.fe0) = true → R_ref1_IsName (a0.fName) v5) ∧ ∃ (v6 : Bool), (((!((bif v3.fe0 then !(v5) else false)) && v3.fe1)) = true → R_ref1_IsName (a0.fOther) v6) ∧ ((((bif (bif v3.fe0 then !(v5) else false) then true else (bif v3.fe1 then !(v6) else false))) = true → Q ((6))) ∧ (((bif (bif v3.fe0 then !(v5) else false) then true else (bif v3.fe1 then !(v6) else false))) = false → ∃ (v8 : Int), R_ref22_lists a0 (v3.fe2) (false) v8 ∧ (((((v8) != (0))) = true → Q ((v8))) ∧ ((((v8) != (0))) = false → jn (fun (p9 : Unit) => ∃ (v12 : Int), R_ref22_lists a0 (false) (v3.fe4) v12 ∧ (((((v12) != (0))) = true → Q ((v12))) ∧ ((((v12) != (0))) = false → ((((bif v3.fe5 then decide ((((a0.fCoins).length : Int)) > (64)) else false)) = true → Q ((11))) ∧ (((bif v3.fe5 then decide ((((a0.fCoins).length : Int)) > (64)) else false)) = false → ∃ (v15 : Bool), ((v3.fe6) = true → R_ref22_within (a0.fExpected) (1) (1048576) v15) ∧ ∃ (v16 : Bool), (((v3.fe6 && !(!(v15)))) = true → R_ref22_within (a0.fSource) (1) (1048576) v16) ∧ ((((bif v3.fe6 then (bif !(v15) then true else !(v16)) else false)) = true → Q ((5))) ∧ (((bif v3.fe6 then (bif !(v15) then true else !(v16)) else false)) = false → ∃ (v18 : Bool), ((v3.fe7) = true → R_ref22_within (a0.fHandle) (0) (3) v18) ∧ ∃ (v19 : Bool), (((!((bif v3.fe7 then !(v18) else false)) && v3.fe8)) = true → R_ref22_within (a0.fIndex) (0) (15) v19) ∧ ∃ (v20 : Bool), (((!((bif (bif v3.fe7 then !(v18) else false) then true else (bif v3.fe8 then !(v19) else false))) && v3.fe9)) = true → R_ref22_within (a0.fCursor) (0) (3) v20) ∧ ∃ (v21 : Bool), (((!((bif (bif (bif v3.fe7 then !(v18) else false) then true else (bif v3.fe8 then !(v19) else false)) then true else (bif v3.fe9 then !(v20) else false))) && v3.fe10)) = true → R_ref22_within (a0.fCount) (0) (32) v21) ∧ ((((bif (bif (bif (bif v3.fe7 then !(v18) else false) then true else (bif v3.fe8 then !(v19) else false)) then true else (bif v3.fe9 then !(v20) else false)) then true else (bif v3.fe10 then !(v21) else false))) = true → Q ((5))) ∧ (((bif (bif (bif (bif v3.fe7 then !(v18) else false) then true else (bif v3.fe8 then !(v19) else false)) then true else (bif v3.fe9 then !(v20) else false)) then true else (bif v3.fe10 then !(v21) else false))) = false → jn (fun (p22 : Unit) => ((((bif v3.fe12 then decide ((((a0.fData).length : Int)) > (65536)) else false)) = true → Q ((11))) ∧ (((bif v3.fe12 then decide ((((a0.fData).length : Int)) > (65536)) else false)) = false → ((((bif (bif (bif (bif (bif (bif (bif (bif (bif (bif (bif (bif (bif !(v3.fe0) then (!((a0.fName).toList == ((⟨#[]⟩ : ByteArray)).toList)) else false) then true else (bif !(v3.fe1) then (!((a0.fOther).toList == ((⟨#[]⟩ : ByteArray)).toList)) else false)) then true else (bif !(v3.fe2) then decide ((((a0.fNames).length : Int)) > (0)) else false)) then true else (bif !(v3.fe3) then (!(((a0.fParams.fKind) == (0)) && (((a0.fParams.fSize) == (0)) && (((a0.fParams.fDepth) == (0)) && (((a0.fParams.fSeed) == (0)) && true))))) else false)) then true else (bif !(v3.fe4) then decide ((((a0.fItems).length : Int)) > (0)) else false)) then true else (bif !(v3.fe5) then decide ((((a0.fCoins).length : Int)) > (0)) else false)) then true else (bif !(v3.fe6) then (bif ((a0.fExpected) != (0)) then true else ((a0.fSource) != (0))) else false)) then true else (bif !(v3.fe7) then ((a0.fHandle) != (0)) else false)) then true else (bif !(v3.fe8) then ((a0.fIndex) != (0)) else false)) then true else (bif !(v3.fe9) then ((a0.fCursor) != (0)) else false)) then true else (bif !(v3.fe10) then ((a0.fCount) != (0)) else false)) then true else (bif !(v3.fe11) then (!(((a0.fQuery.fKind) == (0)) && (((a0.fQuery.fKey).toList == (ByteArray.empty).toList) && (((a0.fQuery.fCount) == (0)) && (((a0.fQuery.fNum) == (0)) && (((a0.fQuery.fDen) == (0)) && true)))))) else false)) then true else (bif !(v3.fe12) then decide ((((a0.fData).length : Int)) > (0)) else false))) = true → Q ((18))) ∧ (((bif (bif (bif (bif (bif (bif (bif (bif (bif (bif (bif (bif (bif !(v3.fe0) then (!((a0.fName).toList == ((⟨#[]⟩ : ByteArray)).toList)) else false) then true else (bif !(v3.fe1) then (!((a0.fOther).toList == ((⟨#[]⟩ : ByteArray)).toList)) else false)) then true else (bif !(v3.fe2) then decide ((((a0.fNames).length : Int)) > (0)) else false)) then true else (bif !(v3.fe3) then (!(((a0.fParams.fKind) == (0)) && (((a0.fParams.fSize) == (0)) && (((a0.fParams.fDepth) == (0)) && (((a0.fParams.fSeed) == (0)) && true))))) else false)) then true else (bif !(v3.fe4) then decide ((((a0.fItems).length : Int)) > (0)) else false)) then true else (bif !(v3.fe5) then decide ((((a0.fCoins).length : Int)) > (0)) else false)) then true else (bif !(v3.fe6) then (bif ((a0.fExpected) != (0)) then true else ((a0.fSource) != (0))) else false)) then true else (bif !(v3.fe7) then ((a0.fHandle) != (0)) else false)) then true else (bif !(v3.fe8) then ((a0.fIndex) != (0)) else false)) then true else (bif !(v3.fe9) then ((a0.fCursor) != (0)) else false)) then true else (bif !(v3.fe10) then ((a0.fCount) != (0)) else false)) then true else (bif !(v3.fe11) then (!(((a0.fQuery.fKind) == (0)) && (((a0.fQuery.fKey).toList == (ByteArray.empty).toList) && (((a0.fQuery.fCount) == (0)) && (((a0.fQuery.fNum) == (0)) && (((a0.fQuery.fDen) == (0)) && true)))))) else false)) then true else (bif !(v3.fe12) then decide ((((a0.fData).length : Int)) > (0)) else false))) = false → Q ((0))))))) (fun (J22 : Unit → Prop) => (((v3.fe11) = true → ∃ (v23 : Int), R_ref12_ValidateQuery a0.fQuery v23 ∧ (((((v23) != (0))) = true → Q ((v23))) ∧ ((((v23) != (0))) = false → J22 (())))) ∧ ((v3.fe11) = false → J22 (()))))))))))))) (fun (J9 : Unit → Prop) => (((v3.fe3) = true → ∃ (v10 : Int), R_ref12_ValidateParams a0.fParams v10 ∧ (((((v10) != (0))) = true → Q ((v10))) ∧ ((((v10) != (0))) = false → J9 (())))) ∧ ((v3.fe3) = false → J9 (()))))))))))
def R_ref22_Validate (a0 : T_api_Op) (r : Int) : Prop := W_ref22_Validate a0 fun x => r = x
theorem e_ref22_Validate {a0 : T_api_Op} {Post : Int → Prop} (h : W_ref22_Validate a0 Post) : ∃ r, R_ref22_Validate a0 r ∧ Post r := (show GM (W_ref22_Validate a0) (W_ref22_Validate a0) from GM.ex fun v2 => GM.cond (GM.ret _) (GM.ex fun v3 => GM.ex fun v5 => GM.ex fun v6 => GM.cond (GM.ret _) (GM.ex fun v8 => GM.cond (GM.ret _) (GM.join (fun p9 => GM.ex fun v12 => GM.cond (GM.ret _) (GM.cond (GM.ret _) (GM.ex fun v15 => GM.ex fun v16 => GM.cond (GM.ret _) (GM.ex fun v18 => GM.ex fun v19 => GM.ex fun v20 => GM.ex fun v21 => GM.cond (GM.ret _) (GM.join (fun p22 => GM.cond (GM.ret _) (GM.cond (GM.ret _) (GM.ret _))) (fun _ _ J22 => GM.cond (GM.ex fun v23 => GM.cond (GM.ret _) (J22 _)) (J22 _))))))) (fun _ _ J9 => GM.cond (GM.ex fun v10 => GM.cond (GM.ret _) (J9 _)) (J9 _)))))) Post h
theorem c_ref22_Validate (a0 : T_api_Op) (r : Int) (h : R_ref22_Validate a0 r) : Contract Try.prog 9 [.agg (e_api_Op a0)] [.c (.p (.v (.int .i64 (r))))] [] := by
  refine contract0 tb Try.func9 rfl (by kernel_rfl) rfl rfl (Nat.le_of_ble_eq_true rfl) rfl ?_
  intro E
  unfold R_ref22_Validate W_ref22_Validate at h
  refine aw_Q (fun Q hQ => ?_)
  refine tk fun L hL => ?_
  refine u1 (opL_box_a rfl rfl) ?_
  refine asn rfl rfl ?_
  refine rt (hL _ ?_)
  refine sk fun L1 hL1 => ?_
  refine tk fun L hL => ?_
  refine u0 (opL_fieldp (T := tb) rfl rfl rfl rfl rfl rfl rfl rfl rfl) ?_
  refine u0 (opL_load_box (T := tb) rfl rfl rfl rfl rfl rfl) ?_
  obtain ⟨v2, hv2, h⟩ := h
  refine u0 (opL_call0 (c_ref22_within _ _ _ _ hv2) rfl rfl (.cons (.c (.p _)) (.cons (.c (.p _)) (.cons (.c (.p _)) .nil))) rfl rfl rfl) ?_
  refine u0 (opL_not rfl rfl rfl) ?_
  refine rt (hL _ ?_)
  refine cnd rfl h (fun h => ?_) fun h => ?_
  · refine tk fun L hL => ?_
    refine asn rfl rfl ?_
    refine rt (hL _ ?_)
    obtain rfl := h
    exact aw_ret (hQ _ _ ⟨.inr rfl, _, _, _, (.cons (.p rfl) .nil), (.cons (.c (.p _)) .nil), rfl, rfl⟩)
  · refine aw_skip (hL1 _ ?_)
    refine tk fun L hL => ?_
    refine u0 (opL_fieldp (T := tb) rfl rfl rfl rfl rfl rfl rfl rfl rfl) ?_
    refine u0 (opL_load_box (T := tb) rfl rfl rfl rfl rfl rfl) ?_
    obtain ⟨v3, hv3, h⟩ := h
    refine u0 (opL_call0 (c_ref22_Uses _ _ hv3) rfl rfl (.cons (.c (.p _)) .nil) rfl rfl rfl) ?_
    refine u1 (opL_alloc (T := tb) rfl rfl rfl) ?_
    refine un (opL_st_a (T := tb) rfl rfl rfl rfl rfl rfl rfl rfl rfl) ?_
    refine rt (hL _ ?_)
    refine sk fun L4 hL4 => ?_
    refine tk fun L hL => ?_
    refine u0 (opL_index_arr (T := tb) (j := 0) rfl rfl rfl rfl (by decide) rfl rfl rfl rfl rfl rfl) ?_
    refine u0 (opL_load_box (T := tb) rfl rfl rfl rfl rfl rfl) ?_
    refine mv rfl ?_
    refine run_g rfl rfl beq_t (fun hg => opL_fieldp (T := tb) rfl rfl rfl rfl rfl rfl rfl rfl rfl) ?_
    refine run_g rfl rfl beq_t (fun hg => opL_load_box (T := tb) (gt_t hg) rfl rfl rfl rfl rfl) ?_
    obtain ⟨v5, hv5, h⟩ := h
    refine run_g rfl rfl beq_t (fun hg => opL_call0 (c_ref1_IsName _ _ (hv5 hg)) rfl rfl (.cons (toA_g hg (.c (.p _))) .nil) rfl rfl rfl) ?_
    refine run_g rfl rfl beq_t (fun hg => opL_not (gt_t hg) rfl rfl) ?_
    refine u0 (opL_pick_gl (v := .bool (!(v5))) (w := .bool (false)) rfl rfl beq_t rfl bif_v rfl rfl rfl) ?_
    refine mv rfl ?_
    refine run_g rfl rfl beq_f (fun hg => opL_index_arr (T := tb) (j := 1) rfl rfl rfl rfl (by decide) rfl rfl rfl rfl rfl rfl) ?_
    refine run_g rfl rfl beq_f (fun hg => opL_load_box (T := tb) (gt_t hg) rfl rfl rfl rfl rfl) ?_
    refine run_g rfl rfl beq_f (fun hg => opL_move_c (gt_t hg) rfl) ?_
    refine run_gn rfl rfl gand_t (fun hg => opL_fieldp (T := tb) rfl rfl rfl rfl rfl rfl rfl rfl rfl) ?_
    refine run_gn rfl rfl gand_t (fun hg => opL_load_box (T := tb) (gt_t hg) rfl rfl rfl rfl rfl) ?_
    obtain ⟨v6, hv6, h⟩ := h
    refine run_gn rfl rfl gand_t (fun hg => opL_call0 (c_ref1_IsName _ _ (hv6 hg)) rfl rfl (.cons (toA_g hg (.c (.p _))) .nil) rfl rfl rfl) ?_
    refine run_gn rfl rfl gand_t (fun hg => opL_not (gt_t hg) rfl rfl) ?_
    refine run_g rfl rfl beq_f (fun hg => opL_pick_gl (v := .bool (!(v6))) (w := .bool (false)) (gt_t hg) rfl (beq_tn hg) rfl bif_v rfl rfl rfl) ?_
    refine u0 (opL_pick_gr (v := .bool (true)) (w := .bool ((bif v3.fe1 then !(v6) else false))) rfl rfl beq_f rfl bif_v rfl rfl rfl) ?_
    refine rt (hL _ ?_)
    refine aw_sub (st' := ⟨[(1, .c (.ptr (1, 0) 0 0)), (3, .c (.ptr (3, 0) 0 0)), (32, .c (.p (.v (.bool ((bif (bif v3.fe0 then !(v5) else false) then true else (bif v3.fe1 then !(v6) else false)))))))], [((1, 0), some (.box (List.map CV.p (e_api_Op a0)))), ((3, 0), some (.box (List.map CV.p (e_A13_Bool v3))))]⟩) (Sub.nm [1, 3, 32] [((1, 0), (1, 0)), ((3, 0), (3, 0))] rfl rfl) ?_
    refine cnd rfl h (fun h => ?_) fun h => ?_
    · refine tk fun L hL => ?_
      refine asn rfl rfl ?_
      refine rt (hL _ ?_)
      obtain rfl := h
      exact aw_ret (hQ _ _ ⟨.inr rfl, _, _, _, (.cons (.p rfl) .nil), (.cons (.c (.p _)) .nil), rfl, rfl⟩)
    · refine aw_skip (hL4 _ ?_)
      refine sk fun L7 hL7 => ?_
      refine tk fun L hL => ?_
      refine u0 (opL_loads_box (T := tb) rfl rfl rfl rfl rfl rfl rfl) ?_
      refine u0 (opL_index_arr (T := tb) (j := 2) rfl rfl rfl rfl (by decide) rfl rfl rfl rfl rfl rfl) ?_
      refine u0 (opL_load_box (T := tb) rfl rfl rfl rfl rfl rfl) ?_
      obtain ⟨v8, hv8, h⟩ := h
      refine u0 (opL_call0 (c_ref22_lists _ _ _ _ hv8) rfl rfl (.cons (.agg (.cons (.p _) (.cons (.p _) (.cons (.p _) (.cons (.p _) (.cons (.p _) (.cons (.p _) (.cons (.p _) (.cons (.p _) (.cons (.p _) (.cons (.p _) (.cons (.p _) (.cons (.p _) (.cons (.p _) (.cons (.p _) (.cons (.p _) (.cons (.p _) (.cons (.p _) (.cons (.p _) (.cons (.p _) (.cons (.p _) (.cons (.p _) (.cons (.p _) .nil))))))))))))))))))))))) (.cons (.c (.p _)) (.cons (.c (.p _)) .nil))) rfl rfl rfl) ?_
      refine asn rfl rfl ?_
      refine rt (hL _ ?_)
      refine tk fun L hL => ?_
      refine mv rfl ?_
      refine u0 (opL_cmp (c := ((v8) != (0))) rfl rfl rfl rfl rfl) ?_
      refine rt (hL _ ?_)
      refine cnd rfl h (fun h => ?_) fun h => ?_
      · refine tk fun L hL => ?_
        refine mv rfl ?_
        refine asn rfl rfl ?_
        refine rt (hL _ ?_)
        obtain rfl := h
        exact aw_ret (hQ _ _ ⟨.inr rfl, _, _, _, (.cons (.p rfl) .nil), (.cons (.c (.p _)) .nil), rfl, rfl⟩)
      · refine aw_skip (hL7 _ ?_)
        refine aw_jn (fun (p9 : Unit) => (⟨[(1, .c (.ptr (1, 0) 0 0)), (3, .c (.ptr (3, 0) 0 0))], [((1, 0), some (.box (List.map CV.p (e_api_Op a0)))), ((3, 0), some (.box (List.map CV.p (e_A13_Bool v3))))]⟩ : St)) h (fun p9 h => ?_) (fun J9 L9 hL9 h => ?_)
        · refine sk fun L11 hL11 => ?_
          refine tk fun L hL => ?_
          refine u0 (opL_loads_box (T := tb) rfl rfl rfl rfl rfl rfl rfl) ?_
          refine u0 (opL_index_arr (T := tb) (j := 4) rfl rfl rfl rfl (by decide) rfl rfl rfl rfl rfl rfl) ?_
          refine u0 (opL_load_box (T := tb) rfl rfl rfl rfl rfl rfl) ?_
          obtain ⟨v12, hv12, h⟩ := h
          refine u0 (opL_call0 (c_ref22_lists _ _ _ _ hv12) rfl rfl (.cons (.agg (.cons (.p _) (.cons (.p _) (.cons (.p _) (.cons (.p _) (.cons (.p _) (.cons (.p _) (.cons (.p _) (.cons (.p _) (.cons (.p _) (.cons (.p _) (.cons (.p _) (.cons (.p _) (.cons (.p _) (.cons (.p _) (.cons (.p _) (.cons (.p _) (.cons (.p _) (.cons (.p _) (.cons (.p _) (.cons (.p _) (.cons (.p _) (.cons (.p _) .nil))))))))))))))))))))))) (.cons (.c (.p _)) (.cons (.c (.p _)) .nil))) rfl rfl rfl) ?_
          refine asn rfl rfl ?_
          refine rt (hL _ ?_)
          refine tk fun L hL => ?_
          refine mv rfl ?_
          refine u0 (opL_cmp (c := ((v12) != (0))) rfl rfl rfl rfl rfl) ?_
          refine rt (hL _ ?_)
          refine cnd rfl h (fun h => ?_) fun h => ?_
          · refine tk fun L hL => ?_
            refine mv rfl ?_
            refine asn rfl rfl ?_
            refine rt (hL _ ?_)
            obtain rfl := h
            exact aw_ret (hQ _ _ ⟨.inr rfl, _, _, _, (.cons (.p rfl) .nil), (.cons (.c (.p _)) .nil), rfl, rfl⟩)
          · refine aw_skip (hL11 _ ?_)
            refine sk fun L13 hL13 => ?_
            refine tk fun L hL => ?_
            refine u0 (opL_index_arr (T := tb) (j := 5) rfl rfl rfl rfl (by decide) rfl rfl rfl rfl rfl rfl) ?_
            refine u0 (opL_load_box (T := tb) rfl rfl rfl rfl rfl rfl) ?_
            refine mv rfl ?_
            refine run_g rfl rfl beq_t (fun hg => opL_fieldp (T := tb) rfl rfl rfl rfl rfl rfl rfl rfl rfl) ?_
            refine run_g rfl rfl beq_t (fun hg => opL_load_box (T := tb) (gt_t hg) rfl rfl rfl rfl rfl) ?_
            refine run_g rfl rfl beq_t (fun hg => o_len_l (T := tb) (gt_t hg) rfl rfl rfl) ?_
            refine run_g rfl rfl beq_t (fun hg => opL_cmp (c := decide ((((a0.fCoins).length : Int)) > (64))) (gt_t hg) rfl rfl rfl rfl) ?_
            refine u0 (opL_pick_gl (v := .bool (decide ((((a0.fCoins).length : Int)) > (64)))) (w := .bool (false)) rfl rfl beq_t rfl bif_v rfl rfl rfl) ?_
            refine rt (hL _ ?_)
            refine aw_sub (st' := ⟨[(1, .c (.ptr (1, 0) 0 0)), (3, .c (.ptr (3, 0) 0 0)), (62, .c (.p (.v (.bool ((bif v3.fe5 then decide ((((a0.fCoins).length : Int)) > (64)) else false))))))], [((1, 0), some (.box (List.map CV.p (e_api_Op a0)))), ((3, 0), some (.box (List.map CV.p (e_A13_Bool v3))))]⟩) (Sub.nm [1, 3, 62] [((1, 0), (1, 0)), ((3, 0), (3, 0))] rfl rfl) ?_
            refine cnd rfl h (fun h => ?_) fun h => ?_
            · refine tk fun L hL => ?_
              refine asn rfl rfl ?_
              refine rt (hL _ ?_)
              obtain rfl := h
              exact aw_ret (hQ _ _ ⟨.inr rfl, _, _, _, (.cons (.p rfl) .nil), (.cons (.c (.p _)) .nil), rfl, rfl⟩)
            · refine aw_skip (hL13 _ ?_)
              refine sk fun L14 hL14 => ?_
              refine tk fun L hL => ?_
              refine u0 (opL_index_arr (T := tb) (j := 6) rfl rfl rfl rfl (by decide) rfl rfl rfl rfl rfl rfl) ?_
              refine u0 (opL_load_box (T := tb) rfl rfl rfl rfl rfl rfl) ?_
              refine mv rfl ?_
              refine run_g rfl rfl beq_t (fun hg => opL_fieldp (T := tb) rfl rfl rfl rfl rfl rfl rfl rfl rfl) ?_
              refine run_g rfl rfl beq_t (fun hg => opL_load_box (T := tb) (gt_t hg) rfl rfl rfl rfl rfl) ?_
              obtain ⟨v15, hv15, h⟩ := h
              refine run_g rfl rfl beq_t (fun hg => opL_call0 (c_ref22_within _ _ _ _ (hv15 hg)) rfl rfl (.cons (toA_g hg (.c (.p _))) (.cons (.c (.p _)) (.cons (.c (.p _)) .nil))) rfl rfl rfl) ?_
              refine run_g rfl rfl beq_t (fun hg => opL_not (gt_t hg) rfl rfl) ?_
              refine run_g rfl rfl beq_t (fun hg => opL_move_c (gt_t hg) rfl) ?_
              refine run_gn rfl rfl gand_f (fun hg => opL_fieldp (T := tb) rfl rfl rfl rfl rfl rfl rfl rfl rfl) ?_
              refine run_gn rfl rfl gand_f (fun hg => opL_load_box (T := tb) (gt_t hg) rfl rfl rfl rfl rfl) ?_
              obtain ⟨v16, hv16, h⟩ := h
              refine run_gn rfl rfl gand_f (fun hg => opL_call0 (c_ref22_within _ _ _ _ (hv16 hg)) rfl rfl (.cons (toA_g hg (.c (.p _))) (.cons (.c (.p _)) (.cons (.c (.p _)) .nil))) rfl rfl rfl) ?_
              refine run_gn rfl rfl gand_f (fun hg => opL_not (gt_t hg) rfl rfl) ?_
              refine run_g rfl rfl beq_t (fun hg => opL_pick_gr (v := .bool (true)) (w := .bool (!(v16))) (gt_t hg) rfl (beq_fn hg) rfl bif_v rfl rfl rfl) ?_
              refine u0 (opL_pick_gl (v := .bool ((bif !(v15) then true else !(v16)))) (w := .bool (false)) rfl rfl beq_t rfl bif_v rfl rfl rfl) ?_
              refine rt (hL _ ?_)
              refine aw_sub (st' := ⟨[(1, .c (.ptr (1, 0) 0 0)), (3, .c (.ptr (3, 0) 0 0)), (76, .c (.p (.v (.bool ((bif v3.fe6 then (bif !(v15) then true else !(v16)) else false))))))], [((1, 0), some (.box (List.map CV.p (e_api_Op a0)))), ((3, 0), some (.box (List.map CV.p (e_A13_Bool v3))))]⟩) (Sub.nm [1, 3, 76] [((1, 0), (1, 0)), ((3, 0), (3, 0))] rfl rfl) ?_
              refine cnd rfl h (fun h => ?_) fun h => ?_
              · refine tk fun L hL => ?_
                refine asn rfl rfl ?_
                refine rt (hL _ ?_)
                obtain rfl := h
                exact aw_ret (hQ _ _ ⟨.inr rfl, _, _, _, (.cons (.p rfl) .nil), (.cons (.c (.p _)) .nil), rfl, rfl⟩)
              · refine aw_skip (hL14 _ ?_)
                refine sk fun L17 hL17 => ?_
                refine tk fun L hL => ?_
                refine u0 (opL_index_arr (T := tb) (j := 7) rfl rfl rfl rfl (by decide) rfl rfl rfl rfl rfl rfl) ?_
                refine u0 (opL_load_box (T := tb) rfl rfl rfl rfl rfl rfl) ?_
                refine mv rfl ?_
                refine run_g rfl rfl beq_t (fun hg => opL_fieldp (T := tb) rfl rfl rfl rfl rfl rfl rfl rfl rfl) ?_
                refine run_g rfl rfl beq_t (fun hg => opL_load_box (T := tb) (gt_t hg) rfl rfl rfl rfl rfl) ?_
                obtain ⟨v18, hv18, h⟩ := h
                refine run_g rfl rfl beq_t (fun hg => opL_call0 (c_ref22_within _ _ _ _ (hv18 hg)) rfl rfl (.cons (toA_g hg (.c (.p _))) (.cons (.c (.p _)) (.cons (.c (.p _)) .nil))) rfl rfl rfl) ?_
                refine run_g rfl rfl beq_t (fun hg => opL_not (gt_t hg) rfl rfl) ?_
                refine u0 (opL_pick_gl (v := .bool (!(v18))) (w := .bool (false)) rfl rfl beq_t rfl bif_v rfl rfl rfl) ?_
                refine mv rfl ?_
                refine run_g rfl rfl beq_f (fun hg => opL_index_arr (T := tb) (j := 8) rfl rfl rfl rfl (by decide) rfl rfl rfl rfl rfl rfl) ?_
                refine run_g rfl rfl beq_f (fun hg => opL_load_box (T := tb) (gt_t hg) rfl rfl rfl rfl rfl) ?_
                refine run_g rfl rfl beq_f (fun hg => opL_move_c (gt_t hg) rfl) ?_
                refine run_gn rfl rfl gand_t (fun hg => opL_fieldp (T := tb) rfl rfl rfl rfl rfl rfl rfl rfl rfl) ?_
                refine run_gn rfl rfl gand_t (fun hg => opL_load_box (T := tb) (gt_t hg) rfl rfl rfl rfl rfl) ?_
                obtain ⟨v19, hv19, h⟩ := h
                refine run_gn rfl rfl gand_t (fun hg => opL_call0 (c_ref22_within _ _ _ _ (hv19 hg)) rfl rfl (.cons (toA_g hg (.c (.p _))) (.cons (.c (.p _)) (.cons (.c (.p _)) .nil))) rfl rfl rfl) ?_
                refine run_gn rfl rfl gand_t (fun hg => opL_not (gt_t hg) rfl rfl) ?_
                refine run_g rfl rfl beq_f (fun hg => opL_pick_gl (v := .bool (!(v19))) (w := .bool (false)) (gt_t hg) rfl (beq_tn hg) rfl bif_v rfl rfl rfl) ?_
                refine u0 (opL_pick_gr (v := .bool (true)) (w := .bool ((bif v3.fe8 then !(v19) else false))) rfl rfl beq_f rfl bif_v rfl rfl rfl) ?_
                refine mv rfl ?_
                refine run_g rfl rfl beq_f (fun hg => opL_index_arr (T := tb) (j := 9) rfl rfl rfl rfl (by decide) rfl rfl rfl rfl rfl rfl) ?_
                refine run_g rfl rfl beq_f (fun hg => opL_load_box (T := tb) (gt_t hg) rfl rfl rfl rfl rfl) ?_
                refine run_g rfl rfl beq_f (fun hg => opL_move_c (gt_t hg) rfl) ?_
                refine run_gn rfl rfl gand_t (fun hg => opL_fieldp (T := tb) rfl rfl rfl rfl rfl rfl rfl rfl rfl) ?_
                refine run_gn rfl rfl gand_t (fun hg => opL_load_box (T := tb) (gt_t hg) rfl rfl rfl rfl rfl) ?_
                obtain ⟨v20, hv20, h⟩ := h
                refine run_gn rfl rfl gand_t (fun hg => opL_call0 (c_ref22_within _ _ _ _ (hv20 hg)) rfl rfl (.cons (toA_g hg (.c (.p _))) (.cons (.c (.p _)) (.cons (.c (.p _)) .nil))) rfl rfl rfl) ?_
                refine run_gn rfl rfl gand_t (fun hg => opL_not (gt_t hg) rfl rfl) ?_
                refine run_g rfl rfl beq_f (fun hg => opL_pick_gl (v := .bool (!(v20))) (w := .bool (false)) (gt_t hg) rfl (beq_tn hg) rfl bif_v rfl rfl rfl) ?_
                refine u0 (opL_pick_gr (v := .bool (true)) (w := .bool ((bif v3.fe9 then !(v20) else false))) rfl rfl beq_f rfl bif_v rfl rfl rfl) ?_
                refine mv rfl ?_
                refine run_g rfl rfl beq_f (fun hg => opL_index_arr (T := tb) (j := 10) rfl rfl rfl rfl (by decide) rfl rfl rfl rfl rfl rfl) ?_
                refine run_g rfl rfl beq_f (fun hg => opL_load_box (T := tb) (gt_t hg) rfl rfl rfl rfl rfl) ?_
                refine run_g rfl rfl beq_f (fun hg => opL_move_c (gt_t hg) rfl) ?_
                refine run_gn rfl rfl gand_t (fun hg => opL_fieldp (T := tb) rfl rfl rfl rfl rfl rfl rfl rfl rfl) ?_
                refine run_gn rfl rfl gand_t (fun hg => opL_load_box (T := tb) (gt_t hg) rfl rfl rfl rfl rfl) ?_
                obtain ⟨v21, hv21, h⟩ := h
                refine run_gn rfl rfl gand_t (fun hg => opL_call0 (c_ref22_within _ _ _ _ (hv21 hg)) rfl rfl (.cons (toA_g hg (.c (.p _))) (.cons (.c (.p _)) (.cons (.c (.p _)) .nil))) rfl rfl rfl) ?_
                refine run_gn rfl rfl gand_t (fun hg => opL_not (gt_t hg) rfl rfl) ?_
                refine run_g rfl rfl beq_f (fun hg => opL_pick_gl (v := .bool (!(v21))) (w := .bool (false)) (gt_t hg) rfl (beq_tn hg) rfl bif_v rfl rfl rfl) ?_
                refine u0 (opL_pick_gr (v := .bool (true)) (w := .bool ((bif v3.fe10 then !(v21) else false))) rfl rfl beq_f rfl bif_v rfl rfl rfl) ?_
                refine rt (hL _ ?_)
                refine aw_sub (st' := ⟨[(1, .c (.ptr (1, 0) 0 0)), (3, .c (.ptr (3, 0) 0 0)), (114, .c (.p (.v (.bool ((bif (bif (bif (bif v3.fe7 then !(v18) else false) then true else (bif v3.fe8 then !(v19) else false)) then true else (bif v3.fe9 then !(v20) else false)) then true else (bif v3.fe10 then !(v21) else false)))))))], [((1, 0), some (.box (List.map CV.p (e_api_Op a0)))), ((3, 0), some (.box (List.map CV.p (e_A13_Bool v3))))]⟩) (Sub.nm [1, 3, 114] [((1, 0), (1, 0)), ((3, 0), (3, 0))] rfl rfl) ?_
                refine cnd rfl h (fun h => ?_) fun h => ?_
                · refine tk fun L hL => ?_
                  refine asn rfl rfl ?_
                  refine rt (hL _ ?_)
                  obtain rfl := h
                  exact aw_ret (hQ _ _ ⟨.inr rfl, _, _, _, (.cons (.p rfl) .nil), (.cons (.c (.p _)) .nil), rfl, rfl⟩)
                · refine aw_skip (hL17 _ ?_)
                  refine aw_jn (fun (p22 : Unit) => (⟨[(1, .c (.ptr (1, 0) 0 0)), (3, .c (.ptr (3, 0) 0 0))], [((1, 0), some (.box (List.map CV.p (e_api_Op a0)))), ((3, 0), some (.box (List.map CV.p (e_A13_Bool v3))))]⟩ : St)) h (fun p22 h => ?_) (fun J22 L22 hL22 h => ?_)
                  · refine sk fun L24 hL24 => ?_
                    refine tk fun L hL => ?_
                    refine u0 (opL_index_arr (T := tb) (j := 12) rfl rfl rfl rfl (by decide) rfl rfl rfl rfl rfl rfl) ?_
                    refine u0 (opL_load_box (T := tb) rfl rfl rfl rfl rfl rfl) ?_
                    refine mv rfl ?_
                    refine run_g rfl rfl beq_t (fun hg => opL_fieldp (T := tb) rfl rfl rfl rfl rfl rfl rfl rfl rfl) ?_
                    refine run_g rfl rfl beq_t (fun hg => opL_load_box (T := tb) (gt_t hg) rfl rfl rfl rfl rfl) ?_
                    refine run_g rfl rfl beq_t (fun hg => o_len_l (T := tb) (gt_t hg) rfl rfl rfl) ?_
                    refine run_g rfl rfl beq_t (fun hg => opL_cmp (c := decide ((((a0.fData).length : Int)) > (65536))) (gt_t hg) rfl rfl rfl rfl) ?_
                    refine u0 (opL_pick_gl (v := .bool (decide ((((a0.fData).length : Int)) > (65536)))) (w := .bool (false)) rfl rfl beq_t rfl bif_v rfl rfl rfl) ?_
                    refine rt (hL _ ?_)
                    refine aw_sub (st' := ⟨[(1, .c (.ptr (1, 0) 0 0)), (3, .c (.ptr (3, 0) 0 0)), (130, .c (.p (.v (.bool ((bif v3.fe12 then decide ((((a0.fData).length : Int)) > (65536)) else false))))))], [((1, 0), some (.box (List.map CV.p (e_api_Op a0)))), ((3, 0), some (.box (List.map CV.p (e_A13_Bool v3))))]⟩) (Sub.nm [1, 3, 130] [((1, 0), (1, 0)), ((3, 0), (3, 0))] rfl rfl) ?_
                    refine cnd rfl h (fun h => ?_) fun h => ?_
                    · refine tk fun L hL => ?_
                      refine asn rfl rfl ?_
                      refine rt (hL _ ?_)
                      obtain rfl := h
                      exact aw_ret (hQ _ _ ⟨.inr rfl, _, _, _, (.cons (.p rfl) .nil), (.cons (.c (.p _)) .nil), rfl, rfl⟩)
                    · refine aw_skip (hL24 _ ?_)
                      refine sk fun L25 hL25 => ?_
                      refine tk fun L hL => ?_
                      refine u0 (opL_index_arr (T := tb) (j := 0) rfl rfl rfl rfl (by decide) rfl rfl rfl rfl rfl rfl) ?_
                      refine u0 (opL_load_box (T := tb) rfl rfl rfl rfl rfl rfl) ?_
                      refine u0 (opL_not rfl rfl rfl) ?_
                      refine mv rfl ?_
                      refine run_g rfl rfl beq_t (fun hg => opL_fieldp (T := tb) rfl rfl rfl rfl rfl rfl rfl rfl rfl) ?_
                      refine run_g rfl rfl beq_t (fun hg => opL_load_box (T := tb) (gt_t hg) rfl rfl rfl rfl rfl) ?_
                      refine run_g rfl rfl beq_t (fun hg => opL_str (c := (!((a0.fName).toList == ((⟨#[]⟩ : ByteArray)).toList))) (gt_t hg) rfl rfl rfl rfl) ?_
                      refine u0 (opL_pick_gl (v := .bool ((!((a0.fName).toList == ((⟨#[]⟩ : ByteArray)).toList)))) (w := .bool (false)) rfl rfl beq_t rfl bif_v rfl rfl rfl) ?_
                      refine mv rfl ?_
                      refine run_g rfl rfl beq_f (fun hg => opL_index_arr (T := tb) (j := 1) rfl rfl rfl rfl (by decide) rfl rfl rfl rfl rfl rfl) ?_
                      refine run_g rfl rfl beq_f (fun hg => opL_load_box (T := tb) (gt_t hg) rfl rfl rfl rfl rfl) ?_
                      refine run_g rfl rfl beq_f (fun hg => opL_not (gt_t hg) rfl rfl) ?_
                      refine run_g rfl rfl beq_f (fun hg => opL_move_c (gt_t hg) rfl) ?_
                      refine run_gn rfl rfl gand_t (fun hg => opL_fieldp (T := tb) rfl rfl rfl rfl rfl rfl rfl rfl rfl) ?_
                      refine run_gn rfl rfl gand_t (fun hg => opL_load_box (T := tb) (gt_t hg) rfl rfl rfl rfl rfl) ?_
                      refine run_gn rfl rfl gand_t (fun hg => opL_str (c := (!((a0.fOther).toList == ((⟨#[]⟩ : ByteArray)).toList))) (gt_t hg) rfl rfl rfl rfl) ?_
                      refine run_g rfl rfl beq_f (fun hg => opL_pick_gl (v := .bool ((!((a0.fOther).toList == ((⟨#[]⟩ : ByteArray)).toList)))) (w := .bool (false)) (gt_t hg) rfl (beq_tn hg) rfl bif_v rfl rfl rfl) ?_
                      refine u0 (opL_pick_gr (v := .bool (true)) (w := .bool ((bif !(v3.fe1) then (!((a0.fOther).toList == ((⟨#[]⟩ : ByteArray)).toList)) else false))) rfl rfl beq_f rfl bif_v rfl rfl rfl) ?_
                      refine mv rfl ?_
                      refine run_g rfl rfl beq_f (fun hg => opL_index_arr (T := tb) (j := 2) rfl rfl rfl rfl (by decide) rfl rfl rfl rfl rfl rfl) ?_
                      refine run_g rfl rfl beq_f (fun hg => opL_load_box (T := tb) (gt_t hg) rfl rfl rfl rfl rfl) ?_
                      refine run_g rfl rfl beq_f (fun hg => opL_not (gt_t hg) rfl rfl) ?_
                      refine run_g rfl rfl beq_f (fun hg => opL_move_c (gt_t hg) rfl) ?_
                      refine run_gn rfl rfl gand_t (fun hg => opL_fieldp (T := tb) rfl rfl rfl rfl rfl rfl rfl rfl rfl) ?_
                      refine run_gn rfl rfl gand_t (fun hg => opL_load_box (T := tb) (gt_t hg) rfl rfl rfl rfl rfl) ?_
                      refine run_gn rfl rfl gand_t (fun hg => o_len_l (T := tb) (gt_t hg) rfl rfl rfl) ?_
                      refine run_gn rfl rfl gand_t (fun hg => opL_cmp (c := decide ((((a0.fNames).length : Int)) > (0))) (gt_t hg) rfl rfl rfl rfl) ?_
                      refine run_g rfl rfl beq_f (fun hg => opL_pick_gl (v := .bool (decide ((((a0.fNames).length : Int)) > (0)))) (w := .bool (false)) (gt_t hg) rfl (beq_tn hg) rfl bif_v rfl rfl rfl) ?_
                      refine u0 (opL_pick_gr (v := .bool (true)) (w := .bool ((bif !(v3.fe2) then decide ((((a0.fNames).length : Int)) > (0)) else false))) rfl rfl beq_f rfl bif_v rfl rfl rfl) ?_
                      refine mv rfl ?_
                      refine run_g rfl rfl beq_f (fun hg => opL_index_arr (T := tb) (j := 3) rfl rfl rfl rfl (by decide) rfl rfl rfl rfl rfl rfl) ?_
                      refine run_g rfl rfl beq_f (fun hg => opL_load_box (T := tb) (gt_t hg) rfl rfl rfl rfl rfl) ?_
                      refine run_g rfl rfl beq_f (fun hg => opL_not (gt_t hg) rfl rfl) ?_
                      refine run_g rfl rfl beq_f (fun hg => opL_move_c (gt_t hg) rfl) ?_
                      refine run_gn rfl rfl gand_t (fun hg => opL_fieldp (T := tb) rfl rfl rfl rfl rfl rfl rfl rfl rfl) ?_
                      refine run_gn rfl rfl gand_t (fun hg => opL_loads_box (T := tb) (gt_t hg) rfl rfl rfl rfl rfl rfl) ?_
                      refine run_gn rfl rfl gand_t (fun hg => opL_build_s (T := tb) rfl rfl rfl rfl rfl rfl rfl) ?_
                      refine run_gn rfl rfl gand_t (fun hg => o_neqs (us := [.int .i64 (a0.fParams.fKind), .int .i64 (a0.fParams.fSize), .int .i64 (a0.fParams.fDepth), .int .u64 (a0.fParams.fSeed)]) (vs := [.int .i64 (0), .int .i64 (0), .int .i64 (0), .int .u64 (0)]) (c := (!(((a0.fParams.fKind) == (0)) && (((a0.fParams.fSize) == (0)) && (((a0.fParams.fDepth) == (0)) && (((a0.fParams.fSeed) == (0)) && true)))))) (gt_t hg) (gt_t hg) (by kernel_rfl) rfl rfl rfl rfl rfl rfl) ?_
                      refine run_g rfl rfl beq_f (fun hg => opL_pick_gl (v := .bool ((!(((a0.fParams.fKind) == (0)) && (((a0.fParams.fSize) == (0)) && (((a0.fParams.fDepth) == (0)) && (((a0.fParams.fSeed) == (0)) && true))))))) (w := .bool (false)) (gt_t hg) rfl (beq_tn hg) rfl bif_v rfl rfl rfl) ?_
                      refine u0 (opL_pick_gr (v := .bool (true)) (w := .bool ((bif !(v3.fe3) then (!(((a0.fParams.fKind) == (0)) && (((a0.fParams.fSize) == (0)) && (((a0.fParams.fDepth) == (0)) && (((a0.fParams.fSeed) == (0)) && true))))) else false))) rfl rfl beq_f rfl bif_v rfl rfl rfl) ?_
                      refine mv rfl ?_
                      refine run_g rfl rfl beq_f (fun hg => opL_index_arr (T := tb) (j := 4) rfl rfl rfl rfl (by decide) rfl rfl rfl rfl rfl rfl) ?_
                      refine run_g rfl rfl beq_f (fun hg => opL_load_box (T := tb) (gt_t hg) rfl rfl rfl rfl rfl) ?_
                      refine run_g rfl rfl beq_f (fun hg => opL_not (gt_t hg) rfl rfl) ?_
                      refine run_g rfl rfl beq_f (fun hg => opL_move_c (gt_t hg) rfl) ?_
                      refine run_gn rfl rfl gand_t (fun hg => opL_fieldp (T := tb) rfl rfl rfl rfl rfl rfl rfl rfl rfl) ?_
                      refine run_gn rfl rfl gand_t (fun hg => opL_load_box (T := tb) (gt_t hg) rfl rfl rfl rfl rfl) ?_
                      refine run_gn rfl rfl gand_t (fun hg => o_len_l (T := tb) (gt_t hg) rfl rfl rfl) ?_
                      refine run_gn rfl rfl gand_t (fun hg => opL_cmp (c := decide ((((a0.fItems).length : Int)) > (0))) (gt_t hg) rfl rfl rfl rfl) ?_
                      refine run_g rfl rfl beq_f (fun hg => opL_pick_gl (v := .bool (decide ((((a0.fItems).length : Int)) > (0)))) (w := .bool (false)) (gt_t hg) rfl (beq_tn hg) rfl bif_v rfl rfl rfl) ?_
                      refine u0 (opL_pick_gr (v := .bool (true)) (w := .bool ((bif !(v3.fe4) then decide ((((a0.fItems).length : Int)) > (0)) else false))) rfl rfl beq_f rfl bif_v rfl rfl rfl) ?_
                      refine mv rfl ?_
                      refine run_g rfl rfl beq_f (fun hg => opL_index_arr (T := tb) (j := 5) rfl rfl rfl rfl (by decide) rfl rfl rfl rfl rfl rfl) ?_
                      refine run_g rfl rfl beq_f (fun hg => opL_load_box (T := tb) (gt_t hg) rfl rfl rfl rfl rfl) ?_
                      refine run_g rfl rfl beq_f (fun hg => opL_not (gt_t hg) rfl rfl) ?_
                      refine run_g rfl rfl beq_f (fun hg => opL_move_c (gt_t hg) rfl) ?_
                      refine run_gn rfl rfl gand_t (fun hg => opL_fieldp (T := tb) rfl rfl rfl rfl rfl rfl rfl rfl rfl) ?_
                      refine run_gn rfl rfl gand_t (fun hg => opL_load_box (T := tb) (gt_t hg) rfl rfl rfl rfl rfl) ?_
                      refine run_gn rfl rfl gand_t (fun hg => o_len_l (T := tb) (gt_t hg) rfl rfl rfl) ?_
                      refine run_gn rfl rfl gand_t (fun hg => opL_cmp (c := decide ((((a0.fCoins).length : Int)) > (0))) (gt_t hg) rfl rfl rfl rfl) ?_
                      refine run_g rfl rfl beq_f (fun hg => opL_pick_gl (v := .bool (decide ((((a0.fCoins).length : Int)) > (0)))) (w := .bool (false)) (gt_t hg) rfl (beq_tn hg) rfl bif_v rfl rfl rfl) ?_
                      refine u0 (opL_pick_gr (v := .bool (true)) (w := .bool ((bif !(v3.fe5) then decide ((((a0.fCoins).length : Int)) > (0)) else false))) rfl rfl beq_f rfl bif_v rfl rfl rfl) ?_
                      refine mv rfl ?_
                      refine run_g rfl rfl beq_f (fun hg => opL_index_arr (T := tb) (j := 6) rfl rfl rfl rfl (by decide) rfl rfl rfl rfl rfl rfl) ?_
                      refine run_g rfl rfl beq_f (fun hg => opL_load_box (T := tb) (gt_t hg) rfl rfl rfl rfl rfl) ?_
                      refine run_g rfl rfl beq_f (fun hg => opL_not (gt_t hg) rfl rfl) ?_
                      refine run_g rfl rfl beq_f (fun hg => opL_move_c (gt_t hg) rfl) ?_
                      refine run_gn rfl rfl gand_t (fun hg => opL_fieldp (T := tb) rfl rfl rfl rfl rfl rfl rfl rfl rfl) ?_
                      refine run_gn rfl rfl gand_t (fun hg => opL_load_box (T := tb) (gt_t hg) rfl rfl rfl rfl rfl) ?_
                      refine run_gn rfl rfl gand_t (fun hg => opL_cmp (c := ((a0.fExpected) != (0))) (gt_t hg) rfl rfl rfl rfl) ?_
                      refine run_gn rfl rfl gand_t (fun hg => opL_move_c (gt_t hg) rfl) ?_
                      refine run_gn rfl rfl gand_f (fun hg => opL_fieldp (T := tb) rfl rfl rfl rfl rfl rfl rfl rfl rfl) ?_
                      refine run_gn rfl rfl gand_f (fun hg => opL_load_box (T := tb) (gt_t hg) rfl rfl rfl rfl rfl) ?_
                      refine run_gn rfl rfl gand_f (fun hg => opL_cmp (c := ((a0.fSource) != (0))) (gt_t hg) rfl rfl rfl rfl) ?_
                      refine run_gn rfl rfl gand_t (fun hg => opL_pick_gr (v := .bool (true)) (w := .bool (((a0.fSource) != (0)))) (gt_t hg) rfl (beq_fn hg) rfl bif_v rfl rfl rfl) ?_
                      refine run_g rfl rfl beq_f (fun hg => opL_pick_gl (v := .bool ((bif ((a0.fExpected) != (0)) then true else ((a0.fSource) != (0))))) (w := .bool (false)) (gt_t hg) rfl (beq_tn hg) rfl bif_v rfl rfl rfl) ?_
                      refine u0 (opL_pick_gr (v := .bool (true)) (w := .bool ((bif !(v3.fe6) then (bif ((a0.fExpected) != (0)) then true else ((a0.fSource) != (0))) else false))) rfl rfl beq_f rfl bif_v rfl rfl rfl) ?_
                      refine mv rfl ?_
                      refine run_g rfl rfl beq_f (fun hg => opL_index_arr (T := tb) (j := 7) rfl rfl rfl rfl (by decide) rfl rfl rfl rfl rfl rfl) ?_
                      refine run_g rfl rfl beq_f (fun hg => opL_load_box (T := tb) (gt_t hg) rfl rfl rfl rfl rfl) ?_
                      refine run_g rfl rfl beq_f (fun hg => opL_not (gt_t hg) rfl rfl) ?_
                      refine run_g rfl rfl beq_f (fun hg => opL_move_c (gt_t hg) rfl) ?_
                      refine run_gn rfl rfl gand_t (fun hg => opL_fieldp (T := tb) rfl rfl rfl rfl rfl rfl rfl rfl rfl) ?_
                      refine run_gn rfl rfl gand_t (fun hg => opL_load_box (T := tb) (gt_t hg) rfl rfl rfl rfl rfl) ?_
                      refine run_gn rfl rfl gand_t (fun hg => opL_cmp (c := ((a0.fHandle) != (0))) (gt_t hg) rfl rfl rfl rfl) ?_
                      refine run_g rfl rfl beq_f (fun hg => opL_pick_gl (v := .bool (((a0.fHandle) != (0)))) (w := .bool (false)) (gt_t hg) rfl (beq_tn hg) rfl bif_v rfl rfl rfl) ?_
                      refine u0 (opL_pick_gr (v := .bool (true)) (w := .bool ((bif !(v3.fe7) then ((a0.fHandle) != (0)) else false))) rfl rfl beq_f rfl bif_v rfl rfl rfl) ?_
                      refine mv rfl ?_
                      refine run_g rfl rfl beq_f (fun hg => opL_index_arr (T := tb) (j := 8) rfl rfl rfl rfl (by decide) rfl rfl rfl rfl rfl rfl) ?_
                      refine run_g rfl rfl beq_f (fun hg => opL_load_box (T := tb) (gt_t hg) rfl rfl rfl rfl rfl) ?_
                      refine run_g rfl rfl beq_f (fun hg => opL_not (gt_t hg) rfl rfl) ?_
                      refine run_g rfl rfl beq_f (fun hg => opL_move_c (gt_t hg) rfl) ?_
                      refine run_gn rfl rfl gand_t (fun hg => opL_fieldp (T := tb) rfl rfl rfl rfl rfl rfl rfl rfl rfl) ?_
                      refine run_gn rfl rfl gand_t (fun hg => opL_load_box (T := tb) (gt_t hg) rfl rfl rfl rfl rfl) ?_
                      refine run_gn rfl rfl gand_t (fun hg => opL_cmp (c := ((a0.fIndex) != (0))) (gt_t hg) rfl rfl rfl rfl) ?_
                      refine run_g rfl rfl beq_f (fun hg => opL_pick_gl (v := .bool (((a0.fIndex) != (0)))) (w := .bool (false)) (gt_t hg) rfl (beq_tn hg) rfl bif_v rfl rfl rfl) ?_
                      refine u0 (opL_pick_gr (v := .bool (true)) (w := .bool ((bif !(v3.fe8) then ((a0.fIndex) != (0)) else false))) rfl rfl beq_f rfl bif_v rfl rfl rfl) ?_
                      refine mv rfl ?_
                      refine run_g rfl rfl beq_f (fun hg => opL_index_arr (T := tb) (j := 9) rfl rfl rfl rfl (by decide) rfl rfl rfl rfl rfl rfl) ?_
                      refine run_g rfl rfl beq_f (fun hg => opL_load_box (T := tb) (gt_t hg) rfl rfl rfl rfl rfl) ?_
                      refine run_g rfl rfl beq_f (fun hg => opL_not (gt_t hg) rfl rfl) ?_
                      refine run_g rfl rfl beq_f (fun hg => opL_move_c (gt_t hg) rfl) ?_
                      refine run_gn rfl rfl gand_t (fun hg => opL_fieldp (T := tb) rfl rfl rfl rfl rfl rfl rfl rfl rfl) ?_
                      refine run_gn rfl rfl gand_t (fun hg => opL_load_box (T := tb) (gt_t hg) rfl rfl rfl rfl rfl) ?_
                      refine run_gn rfl rfl gand_t (fun hg => opL_cmp (c := ((a0.fCursor) != (0))) (gt_t hg) rfl rfl rfl rfl) ?_
                      refine run_g rfl rfl beq_f (fun hg => opL_pick_gl (v := .bool (((a0.fCursor) != (0)))) (w := .bool (false)) (gt_t hg) rfl (beq_tn hg) rfl bif_v rfl rfl rfl) ?_
                      refine u0 (opL_pick_gr (v := .bool (true)) (w := .bool ((bif !(v3.fe9) then ((a0.fCursor) != (0)) else false))) rfl rfl beq_f rfl bif_v rfl rfl rfl) ?_
                      refine mv rfl ?_
                      refine run_g rfl rfl beq_f (fun hg => opL_index_arr (T := tb) (j := 10) rfl rfl rfl rfl (by decide) rfl rfl rfl rfl rfl rfl) ?_
                      refine run_g rfl rfl beq_f (fun hg => opL_load_box (T := tb) (gt_t hg) rfl rfl rfl rfl rfl) ?_
                      refine run_g rfl rfl beq_f (fun hg => opL_not (gt_t hg) rfl rfl) ?_
                      refine run_g rfl rfl beq_f (fun hg => opL_move_c (gt_t hg) rfl) ?_
                      refine run_gn rfl rfl gand_t (fun hg => opL_fieldp (T := tb) rfl rfl rfl rfl rfl rfl rfl rfl rfl) ?_
                      refine run_gn rfl rfl gand_t (fun hg => opL_load_box (T := tb) (gt_t hg) rfl rfl rfl rfl rfl) ?_
                      refine run_gn rfl rfl gand_t (fun hg => opL_cmp (c := ((a0.fCount) != (0))) (gt_t hg) rfl rfl rfl rfl) ?_
                      refine run_g rfl rfl beq_f (fun hg => opL_pick_gl (v := .bool (((a0.fCount) != (0)))) (w := .bool (false)) (gt_t hg) rfl (beq_tn hg) rfl bif_v rfl rfl rfl) ?_
                      refine u0 (opL_pick_gr (v := .bool (true)) (w := .bool ((bif !(v3.fe10) then ((a0.fCount) != (0)) else false))) rfl rfl beq_f rfl bif_v rfl rfl rfl) ?_
                      refine mv rfl ?_
                      refine run_g rfl rfl beq_f (fun hg => opL_index_arr (T := tb) (j := 11) rfl rfl rfl rfl (by decide) rfl rfl rfl rfl rfl rfl) ?_
                      refine run_g rfl rfl beq_f (fun hg => opL_load_box (T := tb) (gt_t hg) rfl rfl rfl rfl rfl) ?_
                      refine run_g rfl rfl beq_f (fun hg => opL_not (gt_t hg) rfl rfl) ?_
                      refine run_g rfl rfl beq_f (fun hg => opL_move_c (gt_t hg) rfl) ?_
                      refine run_gn rfl rfl gand_t (fun hg => opL_fieldp (T := tb) rfl rfl rfl rfl rfl rfl rfl rfl rfl) ?_
                      refine run_gn rfl rfl gand_t (fun hg => opL_loads_box (T := tb) (gt_t hg) rfl rfl rfl rfl rfl rfl) ?_
                      refine run_gn rfl rfl gand_t (fun hg => opL_build_s (T := tb) rfl rfl rfl rfl rfl rfl rfl) ?_
                      refine run_gn rfl rfl gand_t (fun hg => o_neqs (us := [.int .i64 (a0.fQuery.fKind), .string (a0.fQuery.fKey), .int .i64 (a0.fQuery.fCount), .int .i64 (a0.fQuery.fNum), .int .i64 (a0.fQuery.fDen)]) (vs := [.int .i64 (0), .string (ByteArray.empty), .int .i64 (0), .int .i64 (0), .int .i64 (0)]) (c := (!(((a0.fQuery.fKind) == (0)) && (((a0.fQuery.fKey).toList == (ByteArray.empty).toList) && (((a0.fQuery.fCount) == (0)) && (((a0.fQuery.fNum) == (0)) && (((a0.fQuery.fDen) == (0)) && true))))))) (gt_t hg) (gt_t hg) (by kernel_rfl) rfl rfl rfl rfl rfl rfl) ?_
                      refine run_g rfl rfl beq_f (fun hg => opL_pick_gl (v := .bool ((!(((a0.fQuery.fKind) == (0)) && (((a0.fQuery.fKey).toList == (ByteArray.empty).toList) && (((a0.fQuery.fCount) == (0)) && (((a0.fQuery.fNum) == (0)) && (((a0.fQuery.fDen) == (0)) && true)))))))) (w := .bool (false)) (gt_t hg) rfl (beq_tn hg) rfl bif_v rfl rfl rfl) ?_
                      refine u0 (opL_pick_gr (v := .bool (true)) (w := .bool ((bif !(v3.fe11) then (!(((a0.fQuery.fKind) == (0)) && (((a0.fQuery.fKey).toList == (ByteArray.empty).toList) && (((a0.fQuery.fCount) == (0)) && (((a0.fQuery.fNum) == (0)) && (((a0.fQuery.fDen) == (0)) && true)))))) else false))) rfl rfl beq_f rfl bif_v rfl rfl rfl) ?_
                      refine mv rfl ?_
                      refine run_g rfl rfl beq_f (fun hg => opL_index_arr (T := tb) (j := 12) rfl rfl rfl rfl (by decide) rfl rfl rfl rfl rfl rfl) ?_
                      refine run_g rfl rfl beq_f (fun hg => opL_load_box (T := tb) (gt_t hg) rfl rfl rfl rfl rfl) ?_
                      refine run_g rfl rfl beq_f (fun hg => opL_not (gt_t hg) rfl rfl) ?_
                      refine run_g rfl rfl beq_f (fun hg => opL_move_c (gt_t hg) rfl) ?_
                      refine run_gn rfl rfl gand_t (fun hg => opL_fieldp (T := tb) rfl rfl rfl rfl rfl rfl rfl rfl rfl) ?_
                      refine run_gn rfl rfl gand_t (fun hg => opL_load_box (T := tb) (gt_t hg) rfl rfl rfl rfl rfl) ?_
                      refine run_gn rfl rfl gand_t (fun hg => o_len_l (T := tb) (gt_t hg) rfl rfl rfl) ?_
                      refine run_gn rfl rfl gand_t (fun hg => opL_cmp (c := decide ((((a0.fData).length : Int)) > (0))) (gt_t hg) rfl rfl rfl rfl) ?_
                      refine run_g rfl rfl beq_f (fun hg => opL_pick_gl (v := .bool (decide ((((a0.fData).length : Int)) > (0)))) (w := .bool (false)) (gt_t hg) rfl (beq_tn hg) rfl bif_v rfl rfl rfl) ?_
                      refine u0 (opL_pick_gr (v := .bool (true)) (w := .bool ((bif !(v3.fe12) then decide ((((a0.fData).length : Int)) > (0)) else false))) rfl rfl beq_f rfl bif_v rfl rfl rfl) ?_
                      refine rt (hL _ ?_)
                      refine aw_sub (st' := ⟨[(269, .c (.p (.v (.bool ((bif (bif (bif (bif (bif (bif (bif (bif (bif (bif (bif (bif (bif !(v3.fe0) then (!((a0.fName).toList == ((⟨#[]⟩ : ByteArray)).toList)) else false) then true else (bif !(v3.fe1) then (!((a0.fOther).toList == ((⟨#[]⟩ : ByteArray)).toList)) else false)) then true else (bif !(v3.fe2) then decide ((((a0.fNames).length : Int)) > (0)) else false)) then true else (bif !(v3.fe3) then (!(((a0.fParams.fKind) == (0)) && (((a0.fParams.fSize) == (0)) && (((a0.fParams.fDepth) == (0)) && (((a0.fParams.fSeed) == (0)) && true))))) else false)) then true else (bif !(v3.fe4) then decide ((((a0.fItems).length : Int)) > (0)) else false)) then true else (bif !(v3.fe5) then decide ((((a0.fCoins).length : Int)) > (0)) else false)) then true else (bif !(v3.fe6) then (bif ((a0.fExpected) != (0)) then true else ((a0.fSource) != (0))) else false)) then true else (bif !(v3.fe7) then ((a0.fHandle) != (0)) else false)) then true else (bif !(v3.fe8) then ((a0.fIndex) != (0)) else false)) then true else (bif !(v3.fe9) then ((a0.fCursor) != (0)) else false)) then true else (bif !(v3.fe10) then ((a0.fCount) != (0)) else false)) then true else (bif !(v3.fe11) then (!(((a0.fQuery.fKind) == (0)) && (((a0.fQuery.fKey).toList == (ByteArray.empty).toList) && (((a0.fQuery.fCount) == (0)) && (((a0.fQuery.fNum) == (0)) && (((a0.fQuery.fDen) == (0)) && true)))))) else false)) then true else (bif !(v3.fe12) then decide ((((a0.fData).length : Int)) > (0)) else false)))))))], []⟩) (Sub.nm [269] [] rfl rfl) ?_
                      refine cnd rfl h (fun h => ?_) fun h => ?_
                      · refine tk fun L hL => ?_
                        refine asn rfl rfl ?_
                        refine rt (hL _ ?_)
                        obtain rfl := h
                        exact aw_ret (hQ _ _ ⟨.inr rfl, _, _, _, (.cons (.p rfl) .nil), (.cons (.c (.p _)) .nil), rfl, rfl⟩)
                      · refine aw_skip (hL25 _ ?_)
                        refine tk fun L hL => ?_
                        refine asn rfl rfl ?_
                        refine rt (hL _ ?_)
                        obtain rfl := h
                        exact aw_ret (hQ _ _ ⟨.inr rfl, _, _, _, (.cons (.p rfl) .nil), (.cons (.c (.p _)) .nil), rfl, rfl⟩)
                  · refine tk fun L hL => ?_
                    refine u0 (opL_index_arr (T := tb) (j := 11) rfl rfl rfl rfl (by decide) rfl rfl rfl rfl rfl rfl) ?_
                    refine u0 (opL_load_box (T := tb) rfl rfl rfl rfl rfl rfl) ?_
                    refine rt (hL _ ?_)
                    refine cnd rfl h (fun h => ?_) fun h => ?_
                    · refine tk fun L hL => ?_
                      refine u0 (opL_fieldp (T := tb) rfl rfl rfl rfl rfl rfl rfl rfl rfl) ?_
                      refine u0 (opL_loads_box (T := tb) rfl rfl rfl rfl rfl rfl rfl) ?_
                      obtain ⟨v23, hv23, h⟩ := h
                      refine u0 (opL_call0 (c_ref12_ValidateQuery _ _ hv23) rfl rfl (.cons (.agg (.cons (.p _) (.cons (.p _) (.cons (.p _) (.cons (.p _) (.cons (.p _) .nil)))))) .nil) rfl rfl rfl) ?_
                      refine asn rfl rfl ?_
                      refine rt (hL _ ?_)
                      refine tk fun L hL => ?_
                      refine mv rfl ?_
                      refine u0 (opL_cmp (c := ((v23) != (0))) rfl rfl rfl rfl rfl) ?_
                      refine rt (hL _ ?_)
                      refine cnd rfl h (fun h => ?_) fun h => ?_
                      · refine tk fun L hL => ?_
                        refine mv rfl ?_
                        refine asn rfl rfl ?_
                        refine rt (hL _ ?_)
                        obtain rfl := h
                        exact aw_ret (hQ _ _ ⟨.inr rfl, _, _, _, (.cons (.p rfl) .nil), (.cons (.c (.p _)) .nil), rfl, rfl⟩)
                      · refine aw_skip (hL22 _ _ h (Sub.nm [1, 3] [((1, 0), (1, 0)), ((3, 0), (3, 0))] rfl (by kernel_rfl)))
                    · refine aw_skip (hL22 _ _ h (Sub.nm [1, 3] [((1, 0), (1, 0)), ((3, 0), (3, 0))] rfl (by kernel_rfl)))
        · refine tk fun L hL => ?_
          refine u0 (opL_index_arr (T := tb) (j := 3) rfl rfl rfl rfl (by decide) rfl rfl rfl rfl rfl rfl) ?_
          refine u0 (opL_load_box (T := tb) rfl rfl rfl rfl rfl rfl) ?_
          refine rt (hL _ ?_)
          refine cnd rfl h (fun h => ?_) fun h => ?_
          · refine tk fun L hL => ?_
            refine u0 (opL_fieldp (T := tb) rfl rfl rfl rfl rfl rfl rfl rfl rfl) ?_
            refine u0 (opL_loads_box (T := tb) rfl rfl rfl rfl rfl rfl rfl) ?_
            obtain ⟨v10, hv10, h⟩ := h
            refine u0 (opL_call0 (c_ref12_ValidateParams _ _ hv10) rfl rfl (.cons (.agg (.cons (.p _) (.cons (.p _) (.cons (.p _) (.cons (.p _) .nil))))) .nil) rfl rfl rfl) ?_
            refine asn rfl rfl ?_
            refine rt (hL _ ?_)
            refine tk fun L hL => ?_
            refine mv rfl ?_
            refine u0 (opL_cmp (c := ((v10) != (0))) rfl rfl rfl rfl rfl) ?_
            refine rt (hL _ ?_)
            refine cnd rfl h (fun h => ?_) fun h => ?_
            · refine tk fun L hL => ?_
              refine mv rfl ?_
              refine asn rfl rfl ?_
              refine rt (hL _ ?_)
              obtain rfl := h
              exact aw_ret (hQ _ _ ⟨.inr rfl, _, _, _, (.cons (.p rfl) .nil), (.cons (.c (.p _)) .nil), rfl, rfl⟩)
            · refine aw_skip (hL9 _ _ h (Sub.nm [1, 3] [((1, 0), (1, 0)), ((3, 0), (3, 0))] rfl (by kernel_rfl)))
          · refine aw_skip (hL9 _ _ h (Sub.nm [1, 3] [((1, 0), (1, 0)), ((3, 0), (3, 0))] rfl (by kernel_rfl)))
def W_ref1_Uint (a0 : Int) (Q : ((List Int)) → Prop) : Prop :=
 (((decide ((a0) < (248))) = true → Q (([(IntKind.u8.wrap (a0))]))) ∧ ((decide ((a0) < (248))) = false → jn (fun (p2 : (List Int)) => ((([(IntKind.u8.wrap (IntKind.i64.wrap ((247) + (((p2).length : Int)))))]).length + (p2).length) * 1 ≤ 140737488355328) ∧ Q ((([(IntKind.u8.wrap (IntKind.i64.wrap ((247) + (((p2).length : Int)))))]) ++ (p2)))) (fun (J2 : (List Int) → Prop) => lp (fun (X3 : Int × (List Int) → Prop) (s3 : Int × (List Int)) => (((decide ((s3.1) > (0))) = true → ((([(IntKind.u8.wrap (s3.1))]).length + (s3.2).length) * 1 ≤ 140737488355328) ∧ X3 ((iShr .i64 (s3.1) (8)), (([(IntKind.u8.wrap (s3.1))]) ++ (s3.2)))) ∧ ((decide ((s3.1) > (0))) = false → J2 ((s3.2))))) ((a0), ([] : (List Int))))))
def R_ref1_Uint (a0 : Int) (r : (List Int)) : Prop := W_ref1_Uint a0 fun x => r = x
theorem e_ref1_Uint {a0 : Int} {Post : ((List Int)) → Prop} (h : W_ref1_Uint a0 Post) : ∃ r, R_ref1_Uint a0 r ∧ Post r := (show GM (W_ref1_Uint a0) (W_ref1_Uint a0) from GM.cond (GM.ret _) (GM.join (fun p2 => GM.and (GM.ret _)) (fun _ _ J2 => GM.loop (fun X Y Q s3 X3 h => ⟨fun hc => ⟨((h).1 hc).1, X3 _ (((h).1 hc).2)⟩, fun hc => (h).2 hc⟩) (fun _ _ X3 s3 => GM.cond (GM.and (X3 _)) (J2 _))))) Post h
theorem c_ref1_Uint (a0 : Int) (r : (List Int)) (h : R_ref1_Uint a0 r) : Contract Try.prog 17 [.c (.v (.int .i64 (a0)))] [.c (.own 1 (List.map (eI .u8) (r)))] [] := by
  refine contract0 tb Try.func17 rfl (by kernel_rfl) rfl rfl (Nat.le_of_ble_eq_true rfl) rfl ?_
  intro E
  unfold R_ref1_Uint W_ref1_Uint at h
  refine aw_Q (fun Q hQ => ?_)
  refine tk fun L hL => ?_
  refine asn rfl rfl ?_
  refine rt (hL _ ?_)
  refine sk fun L1 hL1 => ?_
  refine tk fun L hL => ?_
  refine mv rfl ?_
  refine u0 (opL_cmp (c := decide ((a0) < (248))) rfl rfl rfl rfl rfl) ?_
  refine rt (hL _ ?_)
  refine cnd rfl h (fun h => ?_) fun h => ?_
  · refine tk fun L hL => ?_
    refine mv rfl ?_
    refine u0 (opL_conv (T := tb) rfl rfl rfl rfl rfl rfl) ?_
    refine ul (opL_build_sl (T := tb) (rows := List.map (eI .u8) [(IntKind.u8.wrap (a0))]) rfl rfl rfl rfl rfl rfl rfl rfl rfl rfl rfl rfl rfl) ?_
    refine asn rfl rfl ?_
    refine rt (hL _ ?_)
    obtain rfl := h
    exact aw_ret (hQ _ _ ⟨.inr rfl, _, _, _, (.cons (.s rfl) .nil), (.cons (.c (.own rfl rfl)) .nil), rfl, rfl⟩)
  · refine aw_skip (hL1 _ ?_)
    refine tk fun L hL => ?_
    refine asn rfl rfl ?_
    refine rt (hL _ ?_)
    refine aw_jn (fun (p2 : (List Int)) => (⟨[(3, .c (.sl (3, 1000) 0 (List.map (eI .u8) (p2)).length))], [((3, 1000), some (.row 1 (List.map (eI .u8) (p2)) true))]⟩ : St)) h (fun p2 h => ?_) (fun J2 L2 hL2 h => ?_)
    · refine tk fun L hL => ?_
      refine mv rfl ?_
      refine u0 (o_len_sl (T := tb) rfl rfl rfl rfl rfl rfl) ?_
      refine u0 (opL_add rfl rfl rfl rfl rfl) ?_
      refine u0 (opL_conv (T := tb) rfl rfl rfl rfl rfl rfl) ?_
      refine ul (opL_build_sl (T := tb) (rows := List.map (eI .u8) [(IntKind.u8.wrap (IntKind.i64.wrap ((247) + (((p2).length : Int)))))]) rfl rfl rfl rfl rfl rfl rfl rfl rfl rfl rfl rfl rfl) ?_
      refine mv rfl ?_
      obtain ⟨hm6, h⟩ := h
      refine ul (o_app_sl (T := tb) (f := (eI .u8)) (L := [(IntKind.u8.wrap (IntKind.i64.wrap ((247) + (((p2).length : Int)))))]) (L' := p2) hm6 rfl rfl rfl rfl rfl rfl rfl rfl rfl rfl rfl (srcT_sl (T := tb) mem_app rfl rfl rfl rfl rfl rfl)) ?_
      refine asn rfl rfl ?_
      refine rt (hL _ ?_)
      obtain rfl := h
      exact aw_ret (hQ _ _ ⟨.inr rfl, _, _, _, (.cons (.s rfl) .nil), (.cons (.c (.own rfl rfl)) .nil), rfl, rfl⟩)
    · refine aw_block ?_
      refine aw_lp (fun (s3 : Int × (List Int)) => (⟨[(0, .c (.p (.v (.int .i64 (s3.1))))), (3, .c (.sl (3, 1000) 0 (List.map (eI .u8) (s3.2)).length))], [((3, 1000), some (.row 1 (List.map (eI .u8) (s3.2)) true))]⟩ : St)) h ((Sub.blk (3, 1050) 1 rfl rfl rfl).trans ((Sub.slot 3 rfl (.nilo (b := (3, 1050)) rfl)).trans (Sub.nm [0, 3] [((3, 1050), (3, 1000))] rfl (by kernel_rfl)))) (fun X3 L3 hL3 s3 h => ?_)
      refine sk fun L4 hL4 => ?_
      refine tk fun L hL => ?_
      refine mv rfl ?_
      refine u0 (opL_cmp (c := decide ((s3.1) > (0))) rfl rfl rfl rfl rfl) ?_
      refine rt (hL _ ?_)
      refine cnd rfl h (fun h => ?_) fun h => ?_
      · refine aw_skip (hL4 _ ?_)
        refine aw_block ?_
        refine tk fun L hL => ?_
        refine mv rfl ?_
        refine u0 (opL_conv (T := tb) rfl rfl rfl rfl rfl rfl) ?_
        refine ul (opL_build_sl (T := tb) (rows := List.map (eI .u8) [(IntKind.u8.wrap (s3.1))]) rfl rfl rfl rfl rfl rfl rfl rfl rfl rfl rfl rfl rfl) ?_
        refine mv rfl ?_
        obtain ⟨hm5, h⟩ := h
        refine ul (o_app_sl (T := tb) (f := (eI .u8)) (L := [(IntKind.u8.wrap (s3.1))]) (L' := s3.2) hm5 rfl rfl rfl rfl rfl rfl rfl rfl rfl rfl rfl (srcT_sl (T := tb) mem_app rfl rfl rfl rfl rfl rfl)) ?_
        refine asn rfl rfl ?_
        refine rt (hL _ ?_)
        refine tl fun L hL => ?_
        refine mv rfl ?_
        refine u0 (o_shr (by decide) rfl rfl rfl rfl) ?_
        refine asn rfl rfl ?_
        refine rt (hL _ (hL3 _ _ h (Sub.nm [0, 3] [((15, 0), (3, 1000))] rfl (by kernel_rfl))))
      · refine aw_exit (hL2 _ _ h (Sub.nm [3] [((3, 1000), (3, 1000))] rfl (by kernel_rfl)))
def W_ref1_Text (a0 : ByteArray) (Q : ((List Int)) → Prop) : Prop :=
 ∃ (v1 : (List Int)), R_ref1_Uint (((a0).size : Int)) v1 ∧ (((v1).length + (sI (a0)).length) * 1 ≤ 140737488355328) ∧ Q (((v1) ++ (sI (a0))))
def R_ref1_Text (a0 : ByteArray) (r : (List Int)) : Prop := W_ref1_Text a0 fun x => r = x
theorem e_ref1_Text {a0 : ByteArray} {Post : ((List Int)) → Prop} (h : W_ref1_Text a0 Post) : ∃ r, R_ref1_Text a0 r ∧ Post r := (show GM (W_ref1_Text a0) (W_ref1_Text a0) from GM.ex fun v1 => GM.and (GM.ret _)) Post h
theorem c_ref1_Text (a0 : ByteArray) (r : (List Int)) (h : R_ref1_Text a0 r) : Contract Try.prog 18 [.c (.v (.string (a0)))] [.c (.own 1 (List.map (eI .u8) (r)))] [] := by
  refine contract0 tb Try.func18 rfl (by kernel_rfl) rfl rfl (Nat.le_of_ble_eq_true rfl) rfl ?_
  intro E
  unfold R_ref1_Text W_ref1_Text at h
  refine aw_Q (fun Q hQ => ?_)
  refine tk fun L hL => ?_
  refine asn rfl rfl ?_
  refine rt (hL _ ?_)
  refine tk fun L hL => ?_
  refine mv rfl ?_
  refine u0 (opL_len_str (T := tb) rfl rfl rfl rfl) ?_
  obtain ⟨v1, hv1, h⟩ := h
  refine ul (opL_call (c_ref1_Uint _ _ hv1) rfl rfl (.cons (.c (.p _)) .nil) rfl rfl rfl) ?_
  refine mv rfl ?_
  obtain ⟨hm2, h⟩ := h
  refine ul (o_app_sl (T := tb) (f := (eI .u8)) (L := v1) (L' := sI (a0)) hm2 rfl rfl rfl rfl rfl rfl rfl rfl rfl rfl rfl (srcT_str (T := tb) mem_app rfl rfl rfl rfl)) ?_
  refine asn rfl rfl ?_
  refine rt (hL _ ?_)
  obtain rfl := h
  exact aw_ret (hQ _ _ ⟨.inr rfl, _, _, _, (.cons (.s rfl) .nil), (.cons (.c (.own rfl rfl)) .nil), rfl, rfl⟩)
def W_ref1_Word (a0 : Int) (Q : ((List Int)) → Prop) : Prop :=
 jn (fun (p1 : (List Int)) => Q ((p1))) (fun (J1 : (List Int) → Prop) => lp (fun (X2 : (List Int) × Int → Prop) (s2 : (List Int) × Int) => (((decide ((s2.2) ≥ (0))) = true → ((0 : Int) ≤ (IntKind.u64.wrap (IntKind.i64.wrap ((8) * (s2.2))))) ∧ (((s2.1).length + ([(IntKind.u8.wrap (iShr .u64 (a0) (IntKind.u64.wrap (IntKind.i64.wrap ((8) * (s2.2))))))]).length) * 1 ≤ 140737488355328) ∧ X2 (((s2.1) ++ ([(IntKind.u8.wrap (iShr .u64 (a0) (IntKind.u64.wrap (IntKind.i64.wrap ((8) * (s2.2))))))])), (IntKind.i64.wrap ((s2.2) - (1))))) ∧ ((decide ((s2.2) ≥ (0))) = false → J1 ((s2.1))))) (([] : (List Int)), (7)))
def R_ref1_Word (a0 : Int) (r : (List Int)) : Prop := W_ref1_Word a0 fun x => r = x
theorem e_ref1_Word {a0 : Int} {Post : ((List Int)) → Prop} (h : W_ref1_Word a0 Post) : ∃ r, R_ref1_Word a0 r ∧ Post r := (show GM (W_ref1_Word a0) (W_ref1_Word a0) from GM.join (fun p1 => GM.ret _) (fun _ _ J1 => GM.loop (fun X Y Q s2 X2 h => ⟨fun hc => ⟨((h).1 hc).1, ⟨(((h).1 hc).2).1, X2 _ ((((h).1 hc).2).2)⟩⟩, fun hc => (h).2 hc⟩) (fun _ _ X2 s2 => GM.cond (GM.and (GM.and (X2 _))) (J1 _)))) Post h
theorem c_ref1_Word (a0 : Int) (r : (List Int)) (h : R_ref1_Word a0 r) : Contract Try.prog 19 [.c (.v (.int .u64 (a0)))] [.c (.own 1 (List.map (eI .u8) (r)))] [] := by
  refine contract0 tb Try.func19 rfl (by kernel_rfl) rfl rfl (Nat.le_of_ble_eq_true rfl) rfl ?_
  intro E
  unfold R_ref1_Word W_ref1_Word at h
  refine aw_Q (fun Q hQ => ?_)
  refine tk fun L hL => ?_
  refine asn rfl rfl ?_
  refine rt (hL _ ?_)
  refine tk fun L hL => ?_
  refine asn rfl rfl ?_
  refine rt (hL _ ?_)
  refine aw_jn (fun (p1 : (List Int)) => (⟨[(3, .c (.sl (3, 1000) 0 (List.map (eI .u8) (p1)).length))], [((3, 1000), some (.row 1 (List.map (eI .u8) (p1)) true))]⟩ : St)) h (fun p1 h => ?_) (fun J1 L1 hL1 h => ?_)
  · refine tk fun L hL => ?_
    refine mv rfl ?_
    refine asn rfl rfl ?_
    refine rt (hL _ ?_)
    obtain rfl := h
    exact aw_ret (hQ _ _ ⟨.inr rfl, _, _, _, (.cons (.s rfl) .nil), (.cons (.c (.own rfl rfl)) .nil), rfl, rfl⟩)
  · refine tk fun L hL => ?_
    refine asn rfl rfl ?_
    refine rt (hL _ ?_)
    refine aw_block ?_
    refine aw_lp (fun (s2 : (List Int) × Int) => (⟨[(0, .c (.p (.v (.int .u64 (a0))))), (3, .c (.sl (3, 1000) 0 (List.map (eI .u8) (s2.1)).length)), (4, .c (.p (.v (.int .i64 (s2.2)))))], [((3, 1000), some (.row 1 (List.map (eI .u8) (s2.1)) true))]⟩ : St)) h ((Sub.blk (3, 1050) 1 rfl rfl rfl).trans ((Sub.slot 3 rfl (.nilo (b := (3, 1050)) rfl)).trans (Sub.nm [0, 3, 4] [((3, 1050), (3, 1000))] rfl (by kernel_rfl)))) (fun X2 L2 hL2 s2 h => ?_)
    refine sk fun L3 hL3 => ?_
    refine tk fun L hL => ?_
    refine mv rfl ?_
    refine u0 (opL_cmp (c := decide ((s2.2) ≥ (0))) rfl rfl rfl rfl rfl) ?_
    refine rt (hL _ ?_)
    refine cnd rfl h (fun h => ?_) fun h => ?_
    · refine aw_skip (hL3 _ ?_)
      refine sk fun L4 hL4 => ?_
      refine aw_block ?_
      refine tl fun L hL => ?_
      refine mv rfl ?_
      refine mv rfl ?_
      refine mv rfl ?_
      refine u0 (opL_mul rfl rfl rfl rfl rfl) ?_
      refine u0 (opL_conv (T := tb) rfl rfl rfl rfl rfl rfl) ?_
      obtain ⟨hz5, h⟩ := h
      refine u0 (o_shr hz5 rfl rfl rfl rfl) ?_
      refine u0 (opL_conv (T := tb) rfl rfl rfl rfl rfl rfl) ?_
      refine ul (opL_build_sl (T := tb) (rows := List.map (eI .u8) [(IntKind.u8.wrap (iShr .u64 (a0) (IntKind.u64.wrap (IntKind.i64.wrap ((8) * (s2.2))))))]) rfl rfl rfl rfl rfl rfl rfl rfl rfl rfl rfl rfl rfl) ?_
      obtain ⟨hm6, h⟩ := h
      refine ul (o_app_sl (T := tb) (f := (eI .u8)) (L := s2.1) (L' := [(IntKind.u8.wrap (iShr .u64 (a0) (IntKind.u64.wrap (IntKind.i64.wrap ((8) * (s2.2))))))]) hm6 rfl rfl rfl rfl rfl rfl rfl rfl rfl rfl rfl (srcT_sl (T := tb) mem_app rfl rfl rfl rfl rfl rfl)) ?_
      refine asn rfl rfl ?_
      refine rt (hL _ (hL4 _ ?_))
      refine tl fun L hL => ?_
      refine mv rfl ?_
      refine u0 (opL_sub rfl rfl rfl rfl rfl) ?_
      refine asn rfl rfl ?_
      refine rt (hL _ (hL2 _ _ h (Sub.nm [0, 3, 4] [((17, 0), (3, 1000))] rfl (by kernel_rfl))))
    · refine aw_exit (hL1 _ _ h (Sub.nm [3] [((3, 1000), (3, 1000))] rfl (by kernel_rfl)))
def W_ref1_Checksum (a0 : (List Int)) (Q : Int → Prop) : Prop :=
 jn (fun (p1 : Int × Int) => Q ((IntKind.u32.wrap ((IntKind.u32.wrap ((p1.2) * (65536))) + (p1.1))))) (fun (J1 : Int × Int → Prop) => lp (fun (X2 : Int × Int × Int → Prop) (s2 : Int × Int × Int) => (((decide ((s2.2.2) < (((a0).length : Int)))) = true → ∃ (v5 : Int), ix (a0) (s2.2.2) v5 ∧ X2 (((IntKind.u32.wrap ((s2.1) + (IntKind.u32.wrap (v5)))).tmod (65521)), ((IntKind.u32.wrap ((s2.2.1) + ((IntKind.u32.wrap ((s2.1) + (IntKind.u32.wrap (v5)))).tmod (65521)))).tmod (65521)), (IntKind.i64.wrap ((s2.2.2) + (1))))) ∧ ((decide ((s2.2.2) < (((a0).length : Int)))) = false → J1 ((s2.1), (s2.2.1))))) ((1), (0), (0)))
def R_ref1_Checksum (a0 : (List Int)) (r : Int) : Prop := W_ref1_Checksum a0 fun x => r = x
theorem e_ref1_Checksum {a0 : (List Int)} {Post : Int → Prop} (h : W_ref1_Checksum a0 Post) : ∃ r, R_ref1_Checksum a0 r ∧ Post r := (show GM (W_ref1_Checksum a0) (W_ref1_Checksum a0) from GM.join (fun p1 => GM.ret _) (fun _ _ J1 => GM.loop (fun X Y Q s2 X2 h => ⟨fun hc => (Exists.elim ((h).1 hc) fun v5 hv5 => ⟨v5, hv5.1, X2 _ (hv5.2)⟩), fun hc => (h).2 hc⟩) (fun _ _ X2 s2 => GM.cond (GM.ex fun v5 => X2 _) (J1 _)))) Post h
theorem c_ref1_Checksum (a0 : (List Int)) (r : Int) (h : R_ref1_Checksum a0 r) : Contract Try.prog 38 [.c (.l 1 (List.map (eI .u8) (a0)))] [.c (.p (.v (.int .u32 (r))))] [] := by
  refine contract0 tb Try.func38 rfl (by kernel_rfl) rfl rfl (Nat.le_of_ble_eq_true rfl) rfl ?_
  intro E
  unfold R_ref1_Checksum W_ref1_Checksum at h
  refine aw_Q (fun Q hQ => ?_)
  refine tk fun L hL => ?_
  refine asn rfl rfl ?_
  refine rt (hL _ ?_)
  refine tk fun L hL => ?_
  refine asn rfl rfl ?_
  refine asn rfl rfl ?_
  refine rt (hL _ ?_)
  refine aw_jn (fun (p1 : Int × Int) => (⟨[(3, .c (.p (.v (.int .u32 (p1.1))))), (4, .c (.p (.v (.int .u32 (p1.2)))))], []⟩ : St)) h (fun p1 h => ?_) (fun J1 L1 hL1 h => ?_)
  · refine tk fun L hL => ?_
    refine mv rfl ?_
    refine u0 (opL_mul rfl rfl rfl rfl rfl) ?_
    refine mv rfl ?_
    refine u0 (opL_add rfl rfl rfl rfl rfl) ?_
    refine asn rfl rfl ?_
    refine rt (hL _ ?_)
    obtain rfl := h
    exact aw_ret (hQ _ _ ⟨.inr rfl, _, _, _, (.cons (.p rfl) .nil), (.cons (.c (.p _)) .nil), rfl, rfl⟩)
  · refine tk fun L hL => ?_
    refine asn rfl rfl ?_
    refine rt (hL _ ?_)
    refine aw_block ?_
    refine aw_lp (fun (s2 : Int × Int × Int) => (⟨[(0, .c (.p (.l 1 (List.map (eI .u8) (a0))))), (3, .c (.p (.v (.int .u32 (s2.1))))), (4, .c (.p (.v (.int .u32 (s2.2.1))))), (5, .c (.p (.v (.int .i64 (s2.2.2)))))], []⟩ : St)) h (Sub.nm [0, 3, 4, 5] [] rfl (by kernel_rfl)) (fun X2 L2 hL2 s2 h => ?_)
    refine sk fun L3 hL3 => ?_
    refine tk fun L hL => ?_
    refine mv rfl ?_
    refine mv rfl ?_
    refine u0 (o_len_l (T := tb) rfl rfl rfl rfl) ?_
    refine u0 (opL_cmp (c := decide ((s2.2.2) < (((a0).length : Int)))) rfl rfl rfl rfl rfl) ?_
    refine rt (hL _ ?_)
    refine cnd rfl h (fun h => ?_) fun h => ?_
    · refine aw_skip (hL3 _ ?_)
      refine sk fun L4 hL4 => ?_
      refine aw_block ?_
      refine tk fun L hL => ?_
      refine mv rfl ?_
      refine mv rfl ?_
      refine mv rfl ?_
      obtain ⟨v5, hv5, h⟩ := h
      refine u0 (o_idx_l (T := tb) hv5 rfl rfl rfl rfl rfl rfl rfl rfl) ?_
      refine u0 (opL_load_ep (T := tb) rfl rfl rfl rfl rfl) ?_
      refine u0 (opL_conv (T := tb) rfl rfl rfl rfl rfl rfl) ?_
      refine u0 (opL_add rfl rfl rfl rfl rfl) ?_
      refine u0 (o_rem (by decide) rfl rfl rfl rfl) ?_
      refine asn rfl rfl ?_
      refine rt (hL _ ?_)
      refine tl fun L hL => ?_
      refine mv rfl ?_
      refine mv rfl ?_
      refine u0 (opL_add rfl rfl rfl rfl rfl) ?_
      refine u0 (o_rem (by decide) rfl rfl rfl rfl) ?_
      refine asn rfl rfl ?_
      refine rt (hL _ (hL4 _ ?_))
      refine tl fun L hL => ?_
      refine mv rfl ?_
      refine u0 (opL_add rfl rfl rfl rfl rfl) ?_
      refine asn rfl rfl ?_
      refine rt (hL _ (hL2 _ _ h (Sub.nm [0, 3, 4, 5] [] rfl (by kernel_rfl))))
    · refine aw_exit (hL1 _ _ h (Sub.nm [3, 4] [] rfl (by kernel_rfl)))
def W_ref1_Frame (a0 : Int) (a1 : (List Int)) (Q : ((List Int) × Int) → Prop) : Prop :=
 (((decide ((((a1).length : Int)) > (1048576))) = true → Q (([] : (List Int)), (11))) ∧ ((decide ((((a1).length : Int)) > (1048576))) = false → ∃ (v2 : (List Int)), R_ref1_Uint (((a1).length : Int)) v2 ∧ ((([(a0)]).length + (v2).length) * 1 ≤ 140737488355328) ∧ (((([(a0)]) ++ (v2)).length + (a1).length) * 1 ≤ 140737488355328) ∧ ∃ (v5 : Int), R_ref1_Checksum ((([(a0)]) ++ (v2)) ++ (a1)) v5 ∧ ((((([(a0)]) ++ (v2)) ++ (a1)).length + ([(IntKind.u8.wrap (iShr .u32 (v5) (24))), (IntKind.u8.wrap (iShr .u32 (v5) (16))), (IntKind.u8.wrap (iShr .u32 (v5) (8))), (IntKind.u8.wrap (v5))]).length) * 1 ≤ 140737488355328) ∧ Q ((((([(a0)]) ++ (v2)) ++ (a1)) ++ ([(IntKind.u8.wrap (iShr .u32 (v5) (24))), (IntKind.u8.wrap (iShr .u32 (v5) (16))), (IntKind.u8.wrap (iShr .u32 (v5) (8))), (IntKind.u8.wrap (v5))])), (0))))
def R_ref1_Frame (a0 : Int) (a1 : (List Int)) (r : (List Int) × Int) : Prop := W_ref1_Frame a0 a1 fun x => r = x
theorem e_ref1_Frame {a0 : Int} {a1 : (List Int)} {Post : ((List Int) × Int) → Prop} (h : W_ref1_Frame a0 a1 Post) : ∃ r, R_ref1_Frame a0 a1 r ∧ Post r := (show GM (W_ref1_Frame a0 a1) (W_ref1_Frame a0 a1) from GM.cond (GM.ret _) (GM.ex fun v2 => GM.and (GM.and (GM.ex fun v5 => GM.and (GM.ret _))))) Post h
theorem c_ref1_Frame (a0 : Int) (a1 : (List Int)) (r : (List Int) × Int) (h : R_ref1_Frame a0 a1 r) : Contract Try.prog 20 [.c (.v (.int .u8 (a0))), .c (.l 1 (List.map (eI .u8) (a1)))] [.c (.own 1 (List.map (eI .u8) (r.1))), .c (.p (.v (.int .i64 (r.2))))] [] := by
  refine contract0 tb Try.func20 rfl (by kernel_rfl) rfl rfl (Nat.le_of_ble_eq_true rfl) rfl ?_
  intro E
  unfold R_ref1_Frame W_ref1_Frame at h
  refine aw_Q (fun Q hQ => ?_)
  refine tk fun L hL => ?_
  refine asn rfl rfl ?_
  refine asn rfl rfl ?_
  refine rt (hL _ ?_)
  refine sk fun L1 hL1 => ?_
  refine tk fun L hL => ?_
  refine mv rfl ?_
  refine u0 (o_len_l (T := tb) rfl rfl rfl rfl) ?_
  refine u0 (opL_cmp (c := decide ((((a1).length : Int)) > (1048576))) rfl rfl rfl rfl rfl) ?_
  refine rt (hL _ ?_)
  refine cnd rfl h (fun h => ?_) fun h => ?_
  · refine tk fun L hL => ?_
    refine asn rfl rfl ?_
    refine asn rfl rfl ?_
    refine rt (hL _ ?_)
    obtain rfl := h
    exact aw_ret (hQ _ _ ⟨.inr rfl, _, _, _, (.cons (.p rfl) (.cons (.p rfl) .nil)), (.cons (.c (.nilo _ (Nat.le_of_ble_eq_true rfl))) (.cons (.c (.p _)) .nil)), rfl, rfl⟩)
  · refine aw_skip (hL1 _ ?_)
    refine tk fun L hL => ?_
    refine mv rfl ?_
    refine ul (opL_build_sl (T := tb) (rows := List.map (eI .u8) [(a0)]) rfl rfl rfl rfl rfl rfl rfl rfl rfl rfl rfl rfl rfl) ?_
    refine mv rfl ?_
    refine u0 (o_len_l (T := tb) rfl rfl rfl rfl) ?_
    obtain ⟨v2, hv2, h⟩ := h
    refine ul (opL_call (c_ref1_Uint _ _ hv2) rfl rfl (.cons (.c (.p _)) .nil) rfl rfl rfl) ?_
    obtain ⟨hm3, h⟩ := h
    refine ul (o_app_sl (T := tb) (f := (eI .u8)) (L := [(a0)]) (L' := v2) hm3 rfl rfl rfl rfl rfl rfl rfl rfl rfl rfl rfl (srcT_sl (T := tb) mem_app rfl rfl rfl rfl rfl rfl)) ?_
    refine asn rfl rfl ?_
    refine rt (hL _ ?_)
    refine tk fun L hL => ?_
    refine mv rfl ?_
    refine mv rfl ?_
    obtain ⟨hm4, h⟩ := h
    refine ul (o_app_sl (T := tb) (f := (eI .u8)) (L := ([(a0)]) ++ (v2)) (L' := a1) hm4 rfl rfl rfl rfl rfl rfl rfl rfl rfl rfl rfl (srcT_l (T := tb) mem_app rfl rfl rfl rfl rfl)) ?_
    refine asn rfl rfl ?_
    refine rt (hL _ ?_)
    refine tk fun L hL => ?_
    refine mv rfl ?_
    obtain ⟨v5, hv5, h⟩ := h
    refine ul (opL_callk (c_ref1_Checksum _ _ hv5) (noLl (NoLl.cons (.p rfl) NoLl.nil)) rfl rfl (.cons (.c (.fr rfl (dt_alln rfl))) .nil) rfl rfl rfl) ?_
    refine asn rfl rfl ?_
    refine rt (hL _ ?_)
    refine tk fun L hL => ?_
    refine mv rfl ?_
    refine mv rfl ?_
    refine u0 (o_shr (by decide) rfl rfl rfl rfl) ?_
    refine u0 (opL_conv (T := tb) rfl rfl rfl rfl rfl rfl) ?_
    refine mv rfl ?_
    refine u0 (o_shr (by decide) rfl rfl rfl rfl) ?_
    refine u0 (opL_conv (T := tb) rfl rfl rfl rfl rfl rfl) ?_
    refine mv rfl ?_
    refine u0 (o_shr (by decide) rfl rfl rfl rfl) ?_
    refine u0 (opL_conv (T := tb) rfl rfl rfl rfl rfl rfl) ?_
    refine mv rfl ?_
    refine u0 (opL_conv (T := tb) rfl rfl rfl rfl rfl rfl) ?_
    refine ul (opL_build_sl (T := tb) (rows := List.map (eI .u8) [(IntKind.u8.wrap (iShr .u32 (v5) (24))), (IntKind.u8.wrap (iShr .u32 (v5) (16))), (IntKind.u8.wrap (iShr .u32 (v5) (8))), (IntKind.u8.wrap (v5))]) rfl rfl rfl rfl rfl rfl rfl rfl rfl rfl rfl rfl rfl) ?_
    obtain ⟨hm6, h⟩ := h
    refine ul (o_app_sl (T := tb) (f := (eI .u8)) (L := (([(a0)]) ++ (v2)) ++ (a1)) (L' := [(IntKind.u8.wrap (iShr .u32 (v5) (24))), (IntKind.u8.wrap (iShr .u32 (v5) (16))), (IntKind.u8.wrap (iShr .u32 (v5) (8))), (IntKind.u8.wrap (v5))]) hm6 rfl rfl rfl rfl rfl rfl rfl rfl rfl rfl rfl (srcT_sl (T := tb) mem_app rfl rfl rfl rfl rfl rfl)) ?_
    refine asn rfl rfl ?_
    refine asn rfl rfl ?_
    refine rt (hL _ ?_)
    refine aw_sub (st' := ⟨[(4, .c (.sl (35, 0) 0 (List.map (eI .u8) (((([(a0)]) ++ (v2)) ++ (a1)) ++ ([(IntKind.u8.wrap (iShr .u32 (v5) (24))), (IntKind.u8.wrap (iShr .u32 (v5) (16))), (IntKind.u8.wrap (iShr .u32 (v5) (8))), (IntKind.u8.wrap (v5))]))).length)), (5, .c (.p (.v (.int .i64 (0)))))], [((35, 0), some (.row 1 (List.map (eI .u8) (((([(a0)]) ++ (v2)) ++ (a1)) ++ ([(IntKind.u8.wrap (iShr .u32 (v5) (24))), (IntKind.u8.wrap (iShr .u32 (v5) (16))), (IntKind.u8.wrap (iShr .u32 (v5) (8))), (IntKind.u8.wrap (v5))]))) true))]⟩) (Sub.nm [4, 5] [((35, 0), (35, 0))] rfl rfl) ?_
    obtain rfl := h
    exact aw_ret (hQ _ _ ⟨.inr rfl, _, _, _, (.cons (.s rfl) (.cons (.p rfl) .nil)), (.cons (.c (.own rfl rfl)) (.cons (.c (.p _)) .nil)), rfl, rfl⟩)
end Go.Proofs.Ythlaenafkihjiaa
/- What functions compute, and that they do. No condition. -/
namespace Go.Proofs.Ythlaenafkihjiaa
open Go.RowKit
set_option linter.unusedVariables false
set_option linter.unusedSimpArgs false
set_option maxRecDepth 100000
set_option maxHeartbeats 4000000
def W_ref22_Encode (a0 : T_api_Op) (Q : ((List Int) × Int) → Prop) : Prop :=
 ∃ (v2 : Int), R_ref22_Validate a0 v2 ∧ (((((v2) != (0))) = true → Q (([] : (List Int)), (v2))) ∧ ((((v2) != (0))) = false → ∃ (v3 : (List Int)), R_ref1_Uint (a0.fKind) v3 ∧ ∃ (v4 : (List Int)), R_ref1_Text (a0.fName) v4 ∧ (((v3).length + (v4).length) * 1 ≤ 140737488355328) ∧ ∃ (v6 : (List Int)), R_ref1_Text (a0.fOther) v6 ∧ ((((v3) ++ (v4)).length + (v6).length) * 1 ≤ 140737488355328) ∧ ∃ (v8 : (List Int)), R_ref1_Uint (((a0.fNames).length : Int)) v8 ∧ (((((v3) ++ (v4)) ++ (v6)).length + (v8).length) * 1 ≤ 140737488355328) ∧ jn (fun (p10 : (List Int)) => ∃ (v17 : (List Int)), R_ref1_Uint (a0.fParams.fKind) v17 ∧ (((p10).length + (v17).length) * 1 ≤ 140737488355328) ∧ ∃ (v19 : (List Int)), R_ref1_Uint (a0.fParams.fSize) v19 ∧ ((((p10) ++ (v17)).length + (v19).length) * 1 ≤ 140737488355328) ∧ ∃ (v21 : (List Int)), R_ref1_Uint (a0.fParams.fDepth) v21 ∧ (((((p10) ++ (v17)) ++ (v19)).length + (v21).length) * 1 ≤ 140737488355328) ∧ ∃ (v23 : (List Int)), R_ref1_Word (a0.fParams.fSeed) v23 ∧ ((((((p10) ++ (v17)) ++ (v19)) ++ (v21)).length + (v23).length) * 1 ≤ 140737488355328) ∧ ∃ (v25 : (List Int)), R_ref1_Uint (((a0.fItems).length : Int)) v25 ∧ (((((((p10) ++ (v17)) ++ (v19)) ++ (v21)) ++ (v23)).length + (v25).length) * 1 ≤ 140737488355328) ∧ jn (fun (p27 : (List Int)) => ∃ (v37 : (List Int)), R_ref1_Text (strOfNums (a0.fCoins)) v37 ∧ (((p27).length + (v37).length) * 1 ≤ 140737488355328) ∧ jn (fun (p39 : (List Int)) => ∃ (v46 : (List Int)), R_ref1_Text (a0.fQuery.fKey) v46 ∧ (((p39).length + (v46).length) * 1 ≤ 140737488355328) ∧ ∃ (v48 : (List Int)), R_ref1_Uint (a0.fQuery.fCount) v48 ∧ ((((p39) ++ (v46)).length + (v48).length) * 1 ≤ 140737488355328) ∧ ∃ (v50 : (List Int)), R_ref1_Uint (a0.fQuery.fNum) v50 ∧ (((((p39) ++ (v46)) ++ (v48)).length + (v50).length) * 1 ≤ 140737488355328) ∧ ∃ (v52 : (List Int)), R_ref1_Uint (a0.fQuery.fDen) v52 ∧ ((((((p39) ++ (v46)) ++ (v48)) ++ (v50)).length + (v52).length) * 1 ≤ 140737488355328) ∧ ∃ (v54 : (List Int)), R_ref1_Text (strOfNums (a0.fData)) v54 ∧ (((((((p39) ++ (v46)) ++ (v48)) ++ (v50)) ++ (v52)).length + (v54).length) * 1 ≤ 140737488355328) ∧ ∃ (v56 : (List Int) × Int), R_ref1_Frame (79) ((((((p39) ++ (v46)) ++ (v48)) ++ (v50)) ++ (v52)) ++ (v54)) v56 ∧ Q ((v56.1), (v56.2))) (fun (J39 : (List Int) → Prop) => lp (fun (X40 : (List Int) × (List Int) × Int → Prop) (s40 : (List Int) × (List Int) × Int) => (((decide ((s40.2.2) < (((s40.2.1).length : Int)))) = true → ∃ (v43 : Int), ix (s40.2.1) (s40.2.2) v43 ∧ ∃ (v44 : (List Int)), R_ref1_Uint (v43) v44 ∧ (((s40.1).length + (v44).length) * 1 ≤ 140737488355328) ∧ X40 (((s40.1) ++ (v44)), (s40.2.1), (IntKind.i64.wrap ((s40.2.2) + (1))))) ∧ ((decide ((s40.2.2) < (((s40.2.1).length : Int)))) = false → J39 ((s40.1))))) (((p27) ++ (v37)), ([(a0.fExpected), (a0.fSource), (a0.fHandle), (a0.fIndex), (a0.fCursor), (a0.fCount), (a0.fQuery.fKind)]), (0)))) (fun (J27 : (List Int) → Prop) => lp (fun (X28 : (List Int) × Int → Prop) (s28 : (List Int) × Int) => (((decide ((s28.2) < (((a0.fItems).length : Int)))) = true → ∃ (v31 : T_api_Item), ix (a0.fItems) (s28.2) v31 ∧ ∃ (v32 : (List Int)), R_ref1_Text (v31.fKey) v32 ∧ (((s28.1).length + (v32).length) * 1 ≤ 140737488355328) ∧ ∃ (v34 : T_api_Item), ix (a0.fItems) (s28.2) v34 ∧ ∃ (v35 : (List Int)), R_ref1_Uint (v34.fWeight) v35 ∧ ((((s28.1) ++ (v32)).length + (v35).length) * 1 ≤ 140737488355328) ∧ X28 ((((s28.1) ++ (v32)) ++ (v35)), (IntKind.i64.wrap ((s28.2) + (1))))) ∧ ((decide ((s28.2) < (((a0.fItems).length : Int)))) = false → J27 ((s28.1))))) (((((((p10) ++ (v17)) ++ (v19)) ++ (v21)) ++ (v23)) ++ (v25)), (0)))) (fun (J10 : (List Int) → Prop) => lp (fun (X11 : (List Int) × Int → Prop) (s11 : (List Int) × Int) => (((decide ((s11.2) < (((a0.fNames).length : Int)))) = true → ∃ (v14 : ByteArray), ix (a0.fNames) (s11.2) v14 ∧ ∃ (v15 : (List Int)), R_ref1_Text (v14) v15 ∧ (((s11.1).length + (v15).length) * 1 ≤ 140737488355328) ∧ X11 (((s11.1) ++ (v15)), (IntKind.i64.wrap ((s11.2) + (1))))) ∧ ((decide ((s11.2) < (((a0.fNames).length : Int)))) = false → J10 ((s11.1))))) (((((v3) ++ (v4)) ++ (v6)) ++ (v8)), (0)))))
def R_ref22_Encode (a0 : T_api_Op) (r : (List Int) × Int) : Prop := W_ref22_Encode a0 fun x => r = x
theorem e_ref22_Encode {a0 : T_api_Op} {Post : ((List Int) × Int) → Prop} (h : W_ref22_Encode a0 Post) : ∃ r, R_ref22_Encode a0 r ∧ Post r := (show GM (W_ref22_Encode a0) (W_ref22_Encode a0) from GM.ex fun v2 => GM.cond (GM.ret _) (GM.ex fun v3 => GM.ex fun v4 => GM.and (GM.ex fun v6 => GM.and (GM.ex fun v8 => GM.and (GM.join (fun p10 => GM.ex fun v17 => GM.and (GM.ex fun v19 => GM.and (GM.ex fun v21 => GM.and (GM.ex fun v23 => GM.and (GM.ex fun v25 => GM.and (GM.join (fun p27 => GM.ex fun v37 => GM.and (GM.join (fun p39 => GM.ex fun v46 => GM.and (GM.ex fun v48 => GM.and (GM.ex fun v50 => GM.and (GM.ex fun v52 => GM.and (GM.ex fun v54 => GM.and (GM.ex fun v56 => GM.ret _)))))) (fun _ _ J39 => GM.loop (fun X Y Q s40 X40 h => ⟨fun hc => (Exists.elim ((h).1 hc) fun v43 hv43 => ⟨v43, hv43.1, (Exists.elim (hv43.2) fun v44 hv44 => ⟨v44, hv44.1, ⟨(hv44.2).1, X40 _ ((hv44.2).2)⟩⟩)⟩), fun hc => (h).2 hc⟩) (fun _ _ X40 s40 => GM.cond (GM.ex fun v43 => GM.ex fun v44 => GM.and (X40 _)) (J39 _))))) (fun _ _ J27 => GM.loop (fun X Y Q s28 X28 h => ⟨fun hc => (Exists.elim ((h).1 hc) fun v31 hv31 => ⟨v31, hv31.1, (Exists.elim (hv31.2) fun v32 hv32 => ⟨v32, hv32.1, ⟨(hv32.2).1, (Exists.elim ((hv32.2).2) fun v34 hv34 => ⟨v34, hv34.1, (Exists.elim (hv34.2) fun v35 hv35 => ⟨v35, hv35.1, ⟨(hv35.2).1, X28 _ ((hv35.2).2)⟩⟩)⟩)⟩⟩)⟩), fun hc => (h).2 hc⟩) (fun _ _ X28 s28 => GM.cond (GM.ex fun v31 => GM.ex fun v32 => GM.and (GM.ex fun v34 => GM.ex fun v35 => GM.and (X28 _))) (J27 _))))))))) (fun _ _ J10 => GM.loop (fun X Y Q s11 X11 h => ⟨fun hc => (Exists.elim ((h).1 hc) fun v14 hv14 => ⟨v14, hv14.1, (Exists.elim (hv14.2) fun v15 hv15 => ⟨v15, hv15.1, ⟨(hv15.2).1, X11 _ ((hv15.2).2)⟩⟩)⟩), fun hc => (h).2 hc⟩) (fun _ _ X11 s11 => GM.cond (GM.ex fun v14 => GM.ex fun v15 => GM.and (X11 _)) (J10 _)))))))) Post h
theorem c_ref22_Encode (a0 : T_api_Op) (r : (List Int) × Int) (h : R_ref22_Encode a0 r) : Contract Try.prog 7 [.agg (e_api_Op a0)] [.c (.own 1 (List.map (eI .u8) (r.1))), .c (.p (.v (.int .i64 (r.2))))] [] := by
  refine contract0 tb Try.func7 rfl (by kernel_rfl) rfl rfl (Nat.le_of_ble_eq_true rfl) rfl ?_
  intro E
  unfold R_ref22_Encode W_ref22_Encode at h
  refine aw_Q (fun Q hQ => ?_)
  refine tk fun L hL => ?_
  refine u1 (opL_box_a rfl rfl) ?_
  refine asn rfl rfl ?_
  refine asn rfl rfl ?_
  refine rt (hL _ ?_)
  refine sk fun L1 hL1 => ?_
  refine tk fun L hL => ?_
  refine u0 (opL_loads_box (T := tb) rfl rfl rfl rfl rfl rfl rfl) ?_
  obtain ⟨v2, hv2, h⟩ := h
  refine u0 (opL_call0 (c_ref22_Validate _ _ hv2) rfl rfl (.cons (.agg (.cons (.p _) (.cons (.p _) (.cons (.p _) (.cons (.p _) (.cons (.p _) (.cons (.p _) (.cons (.p _) (.cons (.p _) (.cons (.p _) (.cons (.p _) (.cons (.p _) (.cons (.p _) (.cons (.p _) (.cons (.p _) (.cons (.p _) (.cons (.p _) (.cons (.p _) (.cons (.p _) (.cons (.p _) (.cons (.p _) (.cons (.p _) (.cons (.p _) .nil))))))))))))))))))))))) .nil) rfl rfl rfl) ?_
  refine asn rfl rfl ?_
  refine rt (hL _ ?_)
  refine tk fun L hL => ?_
  refine mv rfl ?_
  refine u0 (opL_cmp (c := ((v2) != (0))) rfl rfl rfl rfl rfl) ?_
  refine rt (hL _ ?_)
  refine cnd rfl h (fun h => ?_) fun h => ?_
  · refine tk fun L hL => ?_
    refine mv rfl ?_
    refine asn rfl rfl ?_
    refine asn rfl rfl ?_
    refine rt (hL _ ?_)
    obtain rfl := h
    exact aw_ret (hQ _ _ ⟨.inr rfl, _, _, _, (.cons (.p rfl) (.cons (.p rfl) .nil)), (.cons (.c (.nilo _ (Nat.le_of_ble_eq_true rfl))) (.cons (.c (.p _)) .nil)), rfl, rfl⟩)
  · refine aw_skip (hL1 _ ?_)
    refine tk fun L hL => ?_
    refine u0 (opL_fieldp (T := tb) rfl rfl rfl rfl rfl rfl rfl rfl rfl) ?_
    refine u0 (opL_load_box (T := tb) rfl rfl rfl rfl rfl rfl) ?_
    obtain ⟨v3, hv3, h⟩ := h
    refine ul (opL_call (c_ref1_Uint _ _ hv3) rfl rfl (.cons (.c (.p _)) .nil) rfl rfl rfl) ?_
    refine asn rfl rfl ?_
    refine rt (hL _ ?_)
    refine dk mixed (fun L hL => ?_)
    refine mv rfl ?_
    refine u0 (opL_fieldp (T := tb) rfl rfl rfl rfl rfl rfl rfl rfl rfl) ?_
    refine u0 (opL_load_box (T := tb) rfl rfl rfl rfl rfl rfl) ?_
    obtain ⟨v4, hv4, h⟩ := h
    refine ul (opL_call (c_ref1_Text _ _ hv4) rfl rfl (.cons (.c (.p _)) .nil) rfl rfl rfl) ?_
    obtain ⟨hm5, h⟩ := h
    refine ul (o_app_sl (T := tb) (f := (eI .u8)) (L := v3) (L' := v4) hm5 rfl rfl rfl rfl rfl rfl rfl rfl rfl rfl rfl (srcT_sl (T := tb) mem_app rfl rfl rfl rfl rfl rfl)) ?_
    refine u0 (opL_fieldp (T := tb) rfl rfl rfl rfl rfl rfl rfl rfl rfl) ?_
    refine u0 (opL_load_box (T := tb) rfl rfl rfl rfl rfl rfl) ?_
    obtain ⟨v6, hv6, h⟩ := h
    refine ul (opL_call (c_ref1_Text _ _ hv6) rfl rfl (.cons (.c (.p _)) .nil) rfl rfl rfl) ?_
    obtain ⟨hm7, h⟩ := h
    refine ul (o_app_sl (T := tb) (f := (eI .u8)) (L := (v3) ++ (v4)) (L' := v6) hm7 rfl rfl rfl rfl rfl rfl rfl rfl rfl rfl rfl (srcT_sl (T := tb) mem_app rfl rfl rfl rfl rfl rfl)) ?_
    refine asn rfl rfl ?_
    refine rd (hL _ ?_)
    refine tk fun L hL => ?_
    refine mv rfl ?_
    refine u0 (opL_fieldp (T := tb) rfl rfl rfl rfl rfl rfl rfl rfl rfl) ?_
    refine u0 (opL_load_box (T := tb) rfl rfl rfl rfl rfl rfl) ?_
    refine u0 (o_len_l (T := tb) rfl rfl rfl rfl) ?_
    obtain ⟨v8, hv8, h⟩ := h
    refine ul (opL_call (c_ref1_Uint _ _ hv8) rfl rfl (.cons (.c (.p _)) .nil) rfl rfl rfl) ?_
    obtain ⟨hm9, h⟩ := h
    refine ul (o_app_sl (T := tb) (f := (eI .u8)) (L := ((v3) ++ (v4)) ++ (v6)) (L' := v8) hm9 rfl rfl rfl rfl rfl rfl rfl rfl rfl rfl rfl (srcT_sl (T := tb) mem_app rfl rfl rfl rfl rfl rfl)) ?_
    refine asn rfl rfl ?_
    refine rt (hL _ ?_)
    refine aw_sub (st' := ⟨[(1, .c (.ptr (1, 0) 0 0)), (5, .c (.sl (32, 0) 0 (List.map (eI .u8) ((((v3) ++ (v4)) ++ (v6)) ++ (v8))).length))], [((1, 0), some (.box (List.map CV.p (e_api_Op a0)))), ((32, 0), some (.row 1 (List.map (eI .u8) ((((v3) ++ (v4)) ++ (v6)) ++ (v8))) true))]⟩) (Sub.nm [1, 5] [((1, 0), (1, 0)), ((32, 0), (32, 0))] rfl rfl) ?_
    refine aw_jn (fun (p10 : (List Int)) => (⟨[(1, .c (.ptr (1, 0) 0 0)), (5, .c (.sl (5, 1000) 0 (List.map (eI .u8) (p10)).length))], [((5, 1000), some (.row 1 (List.map (eI .u8) (p10)) true)), ((1, 0), some (.box (List.map CV.p (e_api_Op a0))))]⟩ : St)) h (fun p10 h => ?_) (fun J10 L10 hL10 h => ?_)
    · refine dk mixed (fun L hL => ?_)
      refine mv rfl ?_
      refine u0 (opL_fieldp (T := tb) rfl rfl rfl rfl rfl rfl rfl rfl rfl) ?_
      refine u0 (opL_fieldp (T := tb) rfl rfl rfl rfl rfl rfl rfl rfl rfl) ?_
      refine u0 (opL_load_box (T := tb) rfl rfl rfl rfl rfl rfl) ?_
      obtain ⟨v17, hv17, h⟩ := h
      refine ul (opL_call (c_ref1_Uint _ _ hv17) rfl rfl (.cons (.c (.p _)) .nil) rfl rfl rfl) ?_
      obtain ⟨hm18, h⟩ := h
      refine ul (o_app_sl (T := tb) (f := (eI .u8)) (L := p10) (L' := v17) hm18 rfl rfl rfl rfl rfl rfl rfl rfl rfl rfl rfl (srcT_sl (T := tb) mem_app rfl rfl rfl rfl rfl rfl)) ?_
      refine u0 (opL_fieldp (T := tb) rfl rfl rfl rfl rfl rfl rfl rfl rfl) ?_
      refine u0 (opL_fieldp (T := tb) rfl rfl rfl rfl rfl rfl rfl rfl rfl) ?_
      refine u0 (opL_load_box (T := tb) rfl rfl rfl rfl rfl rfl) ?_
      obtain ⟨v19, hv19, h⟩ := h
      refine ul (opL_call (c_ref1_Uint _ _ hv19) rfl rfl (.cons (.c (.p _)) .nil) rfl rfl rfl) ?_
      obtain ⟨hm20, h⟩ := h
      refine ul (o_app_sl (T := tb) (f := (eI .u8)) (L := (p10) ++ (v17)) (L' := v19) hm20 rfl rfl rfl rfl rfl rfl rfl rfl rfl rfl rfl (srcT_sl (T := tb) mem_app rfl rfl rfl rfl rfl rfl)) ?_
      refine asn rfl rfl ?_
      refine rd (hL _ ?_)
      refine dk mixed (fun L hL => ?_)
      refine mv rfl ?_
      refine u0 (opL_fieldp (T := tb) rfl rfl rfl rfl rfl rfl rfl rfl rfl) ?_
      refine u0 (opL_fieldp (T := tb) rfl rfl rfl rfl rfl rfl rfl rfl rfl) ?_
      refine u0 (opL_load_box (T := tb) rfl rfl rfl rfl rfl rfl) ?_
      obtain ⟨v21, hv21, h⟩ := h
      refine ul (opL_call (c_ref1_Uint _ _ hv21) rfl rfl (.cons (.c (.p _)) .nil) rfl rfl rfl) ?_
      obtain ⟨hm22, h⟩ := h
      refine ul (o_app_sl (T := tb) (f := (eI .u8)) (L := ((p10) ++ (v17)) ++ (v19)) (L' := v21) hm22 rfl rfl rfl rfl rfl rfl rfl rfl rfl rfl rfl (srcT_sl (T := tb) mem_app rfl rfl rfl rfl rfl rfl)) ?_
      refine u0 (opL_fieldp (T := tb) rfl rfl rfl rfl rfl rfl rfl rfl rfl) ?_
      refine u0 (opL_fieldp (T := tb) rfl rfl rfl rfl rfl rfl rfl rfl rfl) ?_
      refine u0 (opL_load_box (T := tb) rfl rfl rfl rfl rfl rfl) ?_
      obtain ⟨v23, hv23, h⟩ := h
      refine ul (opL_call (c_ref1_Word _ _ hv23) rfl rfl (.cons (.c (.p _)) .nil) rfl rfl rfl) ?_
      obtain ⟨hm24, h⟩ := h
      refine ul (o_app_sl (T := tb) (f := (eI .u8)) (L := (((p10) ++ (v17)) ++ (v19)) ++ (v21)) (L' := v23) hm24 rfl rfl rfl rfl rfl rfl rfl rfl rfl rfl rfl (srcT_sl (T := tb) mem_app rfl rfl rfl rfl rfl rfl)) ?_
      refine asn rfl rfl ?_
      refine rd (hL _ ?_)
      refine tk fun L hL => ?_
      refine mv rfl ?_
      refine u0 (opL_fieldp (T := tb) rfl rfl rfl rfl rfl rfl rfl rfl rfl) ?_
      refine u0 (opL_load_box (T := tb) rfl rfl rfl rfl rfl rfl) ?_
      refine u0 (o_len_l (T := tb) rfl rfl rfl rfl) ?_
      obtain ⟨v25, hv25, h⟩ := h
      refine ul (opL_call (c_ref1_Uint _ _ hv25) rfl rfl (.cons (.c (.p _)) .nil) rfl rfl rfl) ?_
      obtain ⟨hm26, h⟩ := h
      refine ul (o_app_sl (T := tb) (f := (eI .u8)) (L := ((((p10) ++ (v17)) ++ (v19)) ++ (v21)) ++ (v23)) (L' := v25) hm26 rfl rfl rfl rfl rfl rfl rfl rfl rfl rfl rfl (srcT_sl (T := tb) mem_app rfl rfl rfl rfl rfl rfl)) ?_
      refine asn rfl rfl ?_
      refine rt (hL _ ?_)
      refine aw_sub (st' := ⟨[(1, .c (.ptr (1, 0) 0 0)), (5, .c (.sl (75, 0) 0 (List.map (eI .u8) ((((((p10) ++ (v17)) ++ (v19)) ++ (v21)) ++ (v23)) ++ (v25))).length))], [((1, 0), some (.box (List.map CV.p (e_api_Op a0)))), ((75, 0), some (.row 1 (List.map (eI .u8) ((((((p10) ++ (v17)) ++ (v19)) ++ (v21)) ++ (v23)) ++ (v25))) true))]⟩) (Sub.nm [1, 5] [((1, 0), (1, 0)), ((75, 0), (75, 0))] rfl rfl) ?_
      refine aw_jn (fun (p27 : (List Int)) => (⟨[(1, .c (.ptr (1, 0) 0 0)), (5, .c (.sl (5, 1000) 0 (List.map (eI .u8) (p27)).length))], [((5, 1000), some (.row 1 (List.map (eI .u8) (p27)) true)), ((1, 0), some (.box (List.map CV.p (e_api_Op a0))))]⟩ : St)) h (fun p27 h => ?_) (fun J27 L27 hL27 h => ?_)
      · refine tk fun L hL => ?_
        refine mv rfl ?_
        refine u0 (opL_fieldp (T := tb) rfl rfl rfl rfl rfl rfl rfl rfl rfl) ?_
        refine u0 (opL_load_box (T := tb) rfl rfl rfl rfl rfl rfl) ?_
        refine u0 (o_string_l (T := tb) rfl rfl rfl rfl rfl rfl rfl rfl) ?_
        obtain ⟨v37, hv37, h⟩ := h
        refine ul (opL_call (c_ref1_Text _ _ hv37) rfl rfl (.cons (.c (.p _)) .nil) rfl rfl rfl) ?_
        obtain ⟨hm38, h⟩ := h
        refine ul (o_app_sl (T := tb) (f := (eI .u8)) (L := p27) (L' := v37) hm38 rfl rfl rfl rfl rfl rfl rfl rfl rfl rfl rfl (srcT_sl (T := tb) mem_app rfl rfl rfl rfl rfl rfl)) ?_
        refine asn rfl rfl ?_
        refine rt (hL _ ?_)
        refine tk fun L hL => ?_
        refine u0 (opL_fieldp (T := tb) rfl rfl rfl rfl rfl rfl rfl rfl rfl) ?_
        refine u0 (opL_load_box (T := tb) rfl rfl rfl rfl rfl rfl) ?_
        refine u0 (opL_fieldp (T := tb) rfl rfl rfl rfl rfl rfl rfl rfl rfl) ?_
        refine u0 (opL_load_box (T := tb) rfl rfl rfl rfl rfl rfl) ?_
        refine u0 (opL_fieldp (T := tb) rfl rfl rfl rfl rfl rfl rfl rfl rfl) ?_
        refine u0 (opL_load_box (T := tb) rfl rfl rfl rfl rfl rfl) ?_
        refine u0 (opL_fieldp (T := tb) rfl rfl rfl rfl rfl rfl rfl rfl rfl) ?_
        refine u0 (opL_load_box (T := tb) rfl rfl rfl rfl rfl rfl) ?_
        refine u0 (opL_fieldp (T := tb) rfl rfl rfl rfl rfl rfl rfl rfl rfl) ?_
        refine u0 (opL_load_box (T := tb) rfl rfl rfl rfl rfl rfl) ?_
        refine u0 (opL_fieldp (T := tb) rfl rfl rfl rfl rfl rfl rfl rfl rfl) ?_
        refine u0 (opL_load_box (T := tb) rfl rfl rfl rfl rfl rfl) ?_
        refine u0 (opL_fieldp (T := tb) rfl rfl rfl rfl rfl rfl rfl rfl rfl) ?_
        refine u0 (opL_fieldp (T := tb) rfl rfl rfl rfl rfl rfl rfl rfl rfl) ?_
        refine u0 (opL_load_box (T := tb) rfl rfl rfl rfl rfl rfl) ?_
        refine ul (opL_build_sl (T := tb) (rows := List.map (eI .i64) [(a0.fExpected), (a0.fSource), (a0.fHandle), (a0.fIndex), (a0.fCursor), (a0.fCount), (a0.fQuery.fKind)]) rfl rfl rfl rfl rfl rfl rfl rfl rfl rfl rfl rfl rfl) ?_
        refine asn rfl rfl ?_
        refine rt (hL _ ?_)
        refine aw_jn (fun (p39 : (List Int)) => (⟨[(1, .c (.ptr (1, 0) 0 0)), (5, .c (.sl (5, 1000) 0 (List.map (eI .u8) (p39)).length))], [((5, 1000), some (.row 1 (List.map (eI .u8) (p39)) true)), ((1, 0), some (.box (List.map CV.p (e_api_Op a0))))]⟩ : St)) h (fun p39 h => ?_) (fun J39 L39 hL39 h => ?_)
        · refine dk mixed (fun L hL => ?_)
          refine mv rfl ?_
          refine u0 (opL_fieldp (T := tb) rfl rfl rfl rfl rfl rfl rfl rfl rfl) ?_
          refine u0 (opL_fieldp (T := tb) rfl rfl rfl rfl rfl rfl rfl rfl rfl) ?_
          refine u0 (opL_load_box (T := tb) rfl rfl rfl rfl rfl rfl) ?_
          obtain ⟨v46, hv46, h⟩ := h
          refine ul (opL_call (c_ref1_Text _ _ hv46) rfl rfl (.cons (.c (.p _)) .nil) rfl rfl rfl) ?_
          obtain ⟨hm47, h⟩ := h
          refine ul (o_app_sl (T := tb) (f := (eI .u8)) (L := p39) (L' := v46) hm47 rfl rfl rfl rfl rfl rfl rfl rfl rfl rfl rfl (srcT_sl (T := tb) mem_app rfl rfl rfl rfl rfl rfl)) ?_
          refine u0 (opL_fieldp (T := tb) rfl rfl rfl rfl rfl rfl rfl rfl rfl) ?_
          refine u0 (opL_fieldp (T := tb) rfl rfl rfl rfl rfl rfl rfl rfl rfl) ?_
          refine u0 (opL_load_box (T := tb) rfl rfl rfl rfl rfl rfl) ?_
          obtain ⟨v48, hv48, h⟩ := h
          refine ul (opL_call (c_ref1_Uint _ _ hv48) rfl rfl (.cons (.c (.p _)) .nil) rfl rfl rfl) ?_
          obtain ⟨hm49, h⟩ := h
          refine ul (o_app_sl (T := tb) (f := (eI .u8)) (L := (p39) ++ (v46)) (L' := v48) hm49 rfl rfl rfl rfl rfl rfl rfl rfl rfl rfl rfl (srcT_sl (T := tb) mem_app rfl rfl rfl rfl rfl rfl)) ?_
          refine asn rfl rfl ?_
          refine rd (hL _ ?_)
          refine dk mixed (fun L hL => ?_)
          refine mv rfl ?_
          refine u0 (opL_fieldp (T := tb) rfl rfl rfl rfl rfl rfl rfl rfl rfl) ?_
          refine u0 (opL_fieldp (T := tb) rfl rfl rfl rfl rfl rfl rfl rfl rfl) ?_
          refine u0 (opL_load_box (T := tb) rfl rfl rfl rfl rfl rfl) ?_
          obtain ⟨v50, hv50, h⟩ := h
          refine ul (opL_call (c_ref1_Uint _ _ hv50) rfl rfl (.cons (.c (.p _)) .nil) rfl rfl rfl) ?_
          obtain ⟨hm51, h⟩ := h
          refine ul (o_app_sl (T := tb) (f := (eI .u8)) (L := ((p39) ++ (v46)) ++ (v48)) (L' := v50) hm51 rfl rfl rfl rfl rfl rfl rfl rfl rfl rfl rfl (srcT_sl (T := tb) mem_app rfl rfl rfl rfl rfl rfl)) ?_
          refine u0 (opL_fieldp (T := tb) rfl rfl rfl rfl rfl rfl rfl rfl rfl) ?_
          refine u0 (opL_fieldp (T := tb) rfl rfl rfl rfl rfl rfl rfl rfl rfl) ?_
          refine u0 (opL_load_box (T := tb) rfl rfl rfl rfl rfl rfl) ?_
          obtain ⟨v52, hv52, h⟩ := h
          refine ul (opL_call (c_ref1_Uint _ _ hv52) rfl rfl (.cons (.c (.p _)) .nil) rfl rfl rfl) ?_
          obtain ⟨hm53, h⟩ := h
          refine ul (o_app_sl (T := tb) (f := (eI .u8)) (L := (((p39) ++ (v46)) ++ (v48)) ++ (v50)) (L' := v52) hm53 rfl rfl rfl rfl rfl rfl rfl rfl rfl rfl rfl (srcT_sl (T := tb) mem_app rfl rfl rfl rfl rfl rfl)) ?_
          refine asn rfl rfl ?_
          refine rd (hL _ ?_)
          refine tk fun L hL => ?_
          refine mv rfl ?_
          refine u0 (opL_fieldp (T := tb) rfl rfl rfl rfl rfl rfl rfl rfl rfl) ?_
          refine u0 (opL_load_box (T := tb) rfl rfl rfl rfl rfl rfl) ?_
          refine u0 (o_string_l (T := tb) rfl rfl rfl rfl rfl rfl rfl rfl) ?_
          obtain ⟨v54, hv54, h⟩ := h
          refine ul (opL_call (c_ref1_Text _ _ hv54) rfl rfl (.cons (.c (.p _)) .nil) rfl rfl rfl) ?_
          obtain ⟨hm55, h⟩ := h
          refine ul (o_app_sl (T := tb) (f := (eI .u8)) (L := ((((p39) ++ (v46)) ++ (v48)) ++ (v50)) ++ (v52)) (L' := v54) hm55 rfl rfl rfl rfl rfl rfl rfl rfl rfl rfl rfl (srcT_sl (T := tb) mem_app rfl rfl rfl rfl rfl rfl)) ?_
          obtain ⟨v56, hv56, h⟩ := h
          refine ul (opL_callk (c_ref1_Frame _ _ _ hv56) (noLl (NoLl.cons (.o (noL_map nl_eI)) (NoLl.cons (.p rfl) NoLl.nil))) rfl rfl (.cons (.c (.p _)) (.cons (.c (.fr rfl (dt_alln rfl))) .nil)) rfl rfl rfl) ?_
          refine u0 (opL_extract_c rfl rfl rfl) ?_
          refine u0 (opL_extract_c rfl rfl rfl) ?_
          refine asn rfl rfl ?_
          refine asn rfl rfl ?_
          refine rt (hL _ ?_)
          refine aw_sub (st' := ⟨[(2, .c (.sl (163, 0) 0 (List.map (eI .u8) (v56.1)).length)), (3, .c (.p (.v (.int .i64 (v56.2)))))], [((163, 0), some (.row 1 (List.map (eI .u8) (v56.1)) true))]⟩) (Sub.nm [2, 3] [((163, 0), (163, 0))] rfl rfl) ?_
          obtain rfl := h
          exact aw_ret (hQ _ _ ⟨.inr rfl, _, _, _, (.cons (.s rfl) (.cons (.p rfl) .nil)), (.cons (.c (.own rfl rfl)) (.cons (.c (.p _)) .nil)), rfl, rfl⟩)
        · refine tk fun L hL => ?_
          refine asn rfl rfl ?_
          refine rt (hL _ ?_)
          refine aw_block ?_
          refine aw_lp (fun (s40 : (List Int) × (List Int) × Int) => (⟨[(1, .c (.ptr (1, 0) 0 0)), (5, .c (.sl (5, 1000) 0 (List.map (eI .u8) (s40.1)).length)), (8, .c (.sl (8, 1000) 0 (List.map (eI .i64) (s40.2.1)).length)), (9, .c (.p (.v (.int .i64 (s40.2.2)))))], [((5, 1000), some (.row 1 (List.map (eI .u8) (s40.1)) true)), ((8, 1000), some (.row 1 (List.map (eI .i64) (s40.2.1)) true)), ((1, 0), some (.box (List.map CV.p (e_api_Op a0))))]⟩ : St)) h (Sub.nm [1, 5, 8, 9] [((105, 0), (5, 1000)), ((121, 0), (8, 1000)), ((1, 0), (1, 0))] rfl (by kernel_rfl)) (fun X40 L40 hL40 s40 h => ?_)
          refine sk fun L41 hL41 => ?_
          refine tk fun L hL => ?_
          refine mv rfl ?_
          refine mv rfl ?_
          refine u0 (o_len_sl (T := tb) rfl rfl rfl rfl rfl rfl) ?_
          refine u0 (opL_cmp (c := decide ((s40.2.2) < (((s40.2.1).length : Int)))) rfl rfl rfl rfl rfl) ?_
          refine rt (hL _ ?_)
          refine cnd rfl h (fun h => ?_) fun h => ?_
          · refine aw_skip (hL41 _ ?_)
            refine sk fun L42 hL42 => ?_
            refine aw_block ?_
            refine tl fun L hL => ?_
            refine mv rfl ?_
            refine mv rfl ?_
            refine mv rfl ?_
            obtain ⟨v43, hv43, h⟩ := h
            refine u0 (o_idx_sl (T := tb) hv43 rfl rfl rfl rfl rfl rfl rfl rfl rfl rfl) ?_
            refine u0 (opL_load_row (T := tb) rfl rfl (gm hv43.2) rfl rfl rfl rfl) ?_
            obtain ⟨v44, hv44, h⟩ := h
            refine ul (opL_call (c_ref1_Uint _ _ hv44) rfl rfl (.cons (.c (.p _)) .nil) rfl rfl rfl) ?_
            obtain ⟨hm45, h⟩ := h
            refine ul (o_app_sl (T := tb) (f := (eI .u8)) (L := s40.1) (L' := v44) hm45 rfl rfl rfl rfl rfl rfl rfl rfl rfl rfl rfl (srcT_sl (T := tb) mem_app rfl rfl rfl rfl rfl rfl)) ?_
            refine asn rfl rfl ?_
            refine rt (hL _ (hL42 _ ?_))
            refine tl fun L hL => ?_
            refine mv rfl ?_
            refine u0 (opL_add rfl rfl rfl rfl rfl) ?_
            refine asn rfl rfl ?_
            refine rt (hL _ (hL40 _ _ h (Sub.nm [1, 5, 8, 9] [((134, 0), (5, 1000)), ((8, 1000), (8, 1000)), ((1, 0), (1, 0))] rfl (by kernel_rfl))))
          · refine aw_exit (hL39 _ _ h (Sub.nm [1, 5] [((5, 1000), (5, 1000)), ((1, 0), (1, 0))] rfl (by kernel_rfl)))
      · refine tk fun L hL => ?_
        refine asn rfl rfl ?_
        refine rt (hL _ ?_)
        refine aw_block ?_
        refine aw_lp (fun (s28 : (List Int) × Int) => (⟨[(1, .c (.ptr (1, 0) 0 0)), (5, .c (.sl (5, 1000) 0 (List.map (eI .u8) (s28.1)).length)), (7, .c (.p (.v (.int .i64 (s28.2)))))], [((5, 1000), some (.row 1 (List.map (eI .u8) (s28.1)) true)), ((1, 0), some (.box (List.map CV.p (e_api_Op a0))))]⟩ : St)) h (Sub.nm [1, 5, 7] [((75, 0), (5, 1000)), ((1, 0), (1, 0))] rfl (by kernel_rfl)) (fun X28 L28 hL28 s28 h => ?_)
        refine sk fun L29 hL29 => ?_
        refine tk fun L hL => ?_
        refine mv rfl ?_
        refine u0 (opL_fieldp (T := tb) rfl rfl rfl rfl rfl rfl rfl rfl rfl) ?_
        refine u0 (opL_load_box (T := tb) rfl rfl rfl rfl rfl rfl) ?_
        refine u0 (o_len_l (T := tb) rfl rfl rfl rfl) ?_
        refine u0 (opL_cmp (c := decide ((s28.2) < (((a0.fItems).length : Int)))) rfl rfl rfl rfl rfl) ?_
        refine rt (hL _ ?_)
        refine cnd rfl h (fun h => ?_) fun h => ?_
        · refine aw_skip (hL29 _ ?_)
          refine sk fun L30 hL30 => ?_
          refine aw_block ?_
          refine dl mixed (fun L hL => ?_)
          refine mv rfl ?_
          refine u0 (opL_fieldp (T := tb) rfl rfl rfl rfl rfl rfl rfl rfl rfl) ?_
          refine u0 (opL_load_box (T := tb) rfl rfl rfl rfl rfl rfl) ?_
          refine mv rfl ?_
          obtain ⟨v31, hv31, h⟩ := h
          refine u0 (o_idx_l (T := tb) hv31 rfl rfl rfl rfl rfl rfl rfl rfl) ?_
          refine u0 (opL_fielde (T := tb) rfl rfl rfl rfl rfl rfl rfl rfl) ?_
          refine u0 (opL_load_ep (T := tb) rfl rfl rfl rfl rfl) ?_
          obtain ⟨v32, hv32, h⟩ := h
          refine ul (opL_call (c_ref1_Text _ _ hv32) rfl rfl (.cons (.c (.p _)) .nil) rfl rfl rfl) ?_
          obtain ⟨hm33, h⟩ := h
          refine ul (o_app_sl (T := tb) (f := (eI .u8)) (L := s28.1) (L' := v32) hm33 rfl rfl rfl rfl rfl rfl rfl rfl rfl rfl rfl (srcT_sl (T := tb) mem_app rfl rfl rfl rfl rfl rfl)) ?_
          refine u0 (opL_fieldp (T := tb) rfl rfl rfl rfl rfl rfl rfl rfl rfl) ?_
          refine u0 (opL_load_box (T := tb) rfl rfl rfl rfl rfl rfl) ?_
          refine mv rfl ?_
          obtain ⟨v34, hv34, h⟩ := h
          refine u0 (o_idx_l (T := tb) hv34 rfl rfl rfl rfl rfl rfl rfl rfl) ?_
          refine u0 (opL_fielde (T := tb) rfl rfl rfl rfl rfl rfl rfl rfl) ?_
          refine u0 (opL_load_ep (T := tb) rfl rfl rfl rfl rfl) ?_
          obtain ⟨v35, hv35, h⟩ := h
          refine ul (opL_call (c_ref1_Uint _ _ hv35) rfl rfl (.cons (.c (.p _)) .nil) rfl rfl rfl) ?_
          obtain ⟨hm36, h⟩ := h
          refine ul (o_app_sl (T := tb) (f := (eI .u8)) (L := (s28.1) ++ (v32)) (L' := v35) hm36 rfl rfl rfl rfl rfl rfl rfl rfl rfl rfl rfl (srcT_sl (T := tb) mem_app rfl rfl rfl rfl rfl rfl)) ?_
          refine asn rfl rfl ?_
          refine rd (hL _ (hL30 _ ?_))
          refine tl fun L hL => ?_
          refine mv rfl ?_
          refine u0 (opL_add rfl rfl rfl rfl rfl) ?_
          refine asn rfl rfl ?_
          refine rt (hL _ (hL28 _ _ h (Sub.nm [1, 5, 7] [((99, 0), (5, 1000)), ((1, 0), (1, 0))] rfl (by kernel_rfl))))
        · refine aw_exit (hL27 _ _ h (Sub.nm [1, 5] [((5, 1000), (5, 1000)), ((1, 0), (1, 0))] rfl (by kernel_rfl)))
    · refine tk fun L hL => ?_
      refine asn rfl rfl ?_
      refine rt (hL _ ?_)
      refine aw_block ?_
      refine aw_lp (fun (s11 : (List Int) × Int) => (⟨[(1, .c (.ptr (1, 0) 0 0)), (5, .c (.sl (5, 1000) 0 (List.map (eI .u8) (s11.1)).length)), (6, .c (.p (.v (.int .i64 (s11.2)))))], [((5, 1000), some (.row 1 (List.map (eI .u8) (s11.1)) true)), ((1, 0), some (.box (List.map CV.p (e_api_Op a0))))]⟩ : St)) h (Sub.nm [1, 5, 6] [((32, 0), (5, 1000)), ((1, 0), (1, 0))] rfl (by kernel_rfl)) (fun X11 L11 hL11 s11 h => ?_)
      refine sk fun L12 hL12 => ?_
      refine tk fun L hL => ?_
      refine mv rfl ?_
      refine u0 (opL_fieldp (T := tb) rfl rfl rfl rfl rfl rfl rfl rfl rfl) ?_
      refine u0 (opL_load_box (T := tb) rfl rfl rfl rfl rfl rfl) ?_
      refine u0 (o_len_l (T := tb) rfl rfl rfl rfl) ?_
      refine u0 (opL_cmp (c := decide ((s11.2) < (((a0.fNames).length : Int)))) rfl rfl rfl rfl rfl) ?_
      refine rt (hL _ ?_)
      refine cnd rfl h (fun h => ?_) fun h => ?_
      · refine aw_skip (hL12 _ ?_)
        refine sk fun L13 hL13 => ?_
        refine aw_block ?_
        refine tl fun L hL => ?_
        refine mv rfl ?_
        refine u0 (opL_fieldp (T := tb) rfl rfl rfl rfl rfl rfl rfl rfl rfl) ?_
        refine u0 (opL_load_box (T := tb) rfl rfl rfl rfl rfl rfl) ?_
        refine mv rfl ?_
        obtain ⟨v14, hv14, h⟩ := h
        refine u0 (o_idx_l (T := tb) hv14 rfl rfl rfl rfl rfl rfl rfl rfl) ?_
        refine u0 (opL_load_ep (T := tb) rfl rfl rfl rfl rfl) ?_
        obtain ⟨v15, hv15, h⟩ := h
        refine ul (opL_call (c_ref1_Text _ _ hv15) rfl rfl (.cons (.c (.p _)) .nil) rfl rfl rfl) ?_
        obtain ⟨hm16, h⟩ := h
        refine ul (o_app_sl (T := tb) (f := (eI .u8)) (L := s11.1) (L' := v15) hm16 rfl rfl rfl rfl rfl rfl rfl rfl rfl rfl rfl (srcT_sl (T := tb) mem_app rfl rfl rfl rfl rfl rfl)) ?_
        refine asn rfl rfl ?_
        refine rt (hL _ (hL13 _ ?_))
        refine tl fun L hL => ?_
        refine mv rfl ?_
        refine u0 (opL_add rfl rfl rfl rfl rfl) ?_
        refine asn rfl rfl ?_
        refine rt (hL _ (hL11 _ _ h (Sub.nm [1, 5, 6] [((47, 0), (5, 1000)), ((1, 0), (1, 0))] rfl (by kernel_rfl))))
      · refine aw_exit (hL10 _ _ h (Sub.nm [1, 5] [((5, 1000), (5, 1000)), ((1, 0), (1, 0))] rfl (by kernel_rfl)))
def W_law22_OperationRaw (a0 : T_api_Op) (Q : Bool → Prop) : Prop :=
 ((((bif (bif (bif (bif (bif (bif decide ((((a0.fNames).length : Int)) > (30)) then true else decide ((((a0.fItems).length : Int)) > (80))) then true else decide ((((a0.fCoins).length : Int)) > (100))) then true else decide ((((a0.fData).length : Int)) > (1000))) then true else decide ((((a0.fName).size : Int)) > (100))) then true else decide ((((a0.fOther).size : Int)) > (100))) then true else decide ((((a0.fQuery.fKey).size : Int)) > (100)))) = true → R_law22_known  true ∧ Q ((true))) ∧ (((bif (bif (bif (bif (bif (bif decide ((((a0.fNames).length : Int)) > (30)) then true else decide ((((a0.fItems).length : Int)) > (80))) then true else decide ((((a0.fCoins).length : Int)) > (100))) then true else decide ((((a0.fData).length : Int)) > (1000))) then true else decide ((((a0.fName).size : Int)) > (100))) then true else decide ((((a0.fOther).size : Int)) > (100))) then true else decide ((((a0.fQuery.fKey).size : Int)) > (100)))) = false → jn (fun (p3 : Unit) => jn (fun (p9 : Unit) => ∃ (v15 : (List Int) × Int), R_operation_Encode a0 v15 ∧ ∃ (v16 : (List Int) × Int), R_ref22_Encode a0 v16 ∧ ∃ (v17 : Int), R_operation_Validate a0 v17 ∧ ∃ (v18 : Int), R_ref22_Validate a0 v18 ∧ ∃ (v19 : Bool), (((bif (bif ((v17) == (v18)) then ((v15.2) == (v16.2)) else false) then ((strOfNums (v15.1)).toList == (strOfNums (v16.1)).toList) else false)) = true → R_law22_known  v19) ∧ Q (((bif (bif (bif ((v17) == (v18)) then ((v15.2) == (v16.2)) else false) then ((strOfNums (v15.1)).toList == (strOfNums (v16.1)).toList) else false) then v19 else false)))) (fun (J9 : Unit → Prop) => lp (fun (X10 : Int → Prop) (s10 : Int) => (((decide ((s10) < (((a0.fItems).length : Int)))) = true → ∃ (v13 : T_api_Item), ix (a0.fItems) (s10) v13 ∧ (((decide ((((v13.fKey).size : Int)) > (100))) = true → R_law22_known  true ∧ Q ((true))) ∧ ((decide ((((v13.fKey).size : Int)) > (100))) = false → X10 ((IntKind.i64.wrap ((s10) + (1))))))) ∧ ((decide ((s10) < (((a0.fItems).length : Int)))) = false → J9 (())))) ((0)))) (fun (J3 : Unit → Prop) => lp (fun (X4 : Int → Prop) (s4 : Int) => (((decide ((s4) < (((a0.fNames).length : Int)))) = true → ∃ (v7 : ByteArray), ix (a0.fNames) (s4) v7 ∧ (((decide ((((v7).size : Int)) > (100))) = true → R_law22_known  true ∧ Q ((true))) ∧ ((decide ((((v7).size : Int)) > (100))) = false → X4 ((IntKind.i64.wrap ((s4) + (1))))))) ∧ ((decide ((s4) < (((a0.fNames).length : Int)))) = false → J3 (())))) ((0)))))
def R_law22_OperationRaw (a0 : T_api_Op) (r : Bool) : Prop := W_law22_OperationRaw a0 fun x => r = x
theorem e_law22_OperationRaw {a0 : T_api_Op} {Post : Bool → Prop} (h : W_law22_OperationRaw a0 Post) : ∃ r, R_law22_OperationRaw a0 r ∧ Post r := (show GM (W_law22_OperationRaw a0) (W_law22_OperationRaw a0) from GM.cond (GM.and (GM.ret _)) (GM.join (fun p3 => GM.join (fun p9 => GM.ex fun v15 => GM.ex fun v16 => GM.ex fun v17 => GM.ex fun v18 => GM.ex fun v19 => GM.ret _) (fun _ _ J9 => GM.loop (fun X Y Q s10 X10 h => ⟨fun hc => (Exists.elim ((h).1 hc) fun v13 hv13 => ⟨v13, hv13.1, ⟨fun hc => ⟨((hv13.2).1 hc).1, ((hv13.2).1 hc).2⟩, fun hc => X10 _ ((hv13.2).2 hc)⟩⟩), fun hc => (h).2 hc⟩) (fun _ _ X10 s10 => GM.cond (GM.ex fun v13 => GM.cond (GM.and (GM.ret _)) (X10 _)) (J9 _)))) (fun _ _ J3 => GM.loop (fun X Y Q s4 X4 h => ⟨fun hc => (Exists.elim ((h).1 hc) fun v7 hv7 => ⟨v7, hv7.1, ⟨fun hc => ⟨((hv7.2).1 hc).1, ((hv7.2).1 hc).2⟩, fun hc => X4 _ ((hv7.2).2 hc)⟩⟩), fun hc => (h).2 hc⟩) (fun _ _ X4 s4 => GM.cond (GM.ex fun v7 => GM.cond (GM.and (GM.ret _)) (X4 _)) (J3 _))))) Post h
theorem c_law22_OperationRaw (a0 : T_api_Op) (r : Bool) (h : R_law22_OperationRaw a0 r) : Contract Try.prog 3 [.agg (e_api_Op a0)] [.c (.p (.v (.bool (r))))] [] := by
  refine contract0 tb Try.func3 rfl (by kernel_rfl) rfl rfl (Nat.le_of_ble_eq_true rfl) rfl ?_
  intro E
  unfold R_law22_OperationRaw W_law22_OperationRaw at h
  refine aw_Q (fun Q hQ => ?_)
  refine tk fun L hL => ?_
  refine u1 (opL_box_a rfl rfl) ?_
  refine asn rfl rfl ?_
  refine rt (hL _ ?_)
  refine sk fun L1 hL1 => ?_
  refine tk fun L hL => ?_
  refine u0 (opL_fieldp (T := tb) rfl rfl rfl rfl rfl rfl rfl rfl rfl) ?_
  refine u0 (opL_load_box (T := tb) rfl rfl rfl rfl rfl rfl) ?_
  refine u0 (o_len_l (T := tb) rfl rfl rfl rfl) ?_
  refine u0 (opL_cmp (c := decide ((((a0.fNames).length : Int)) > (30))) rfl rfl rfl rfl rfl) ?_
  refine mv rfl ?_
  refine run_g rfl rfl beq_f (fun hg => opL_fieldp (T := tb) rfl rfl rfl rfl rfl rfl rfl rfl rfl) ?_
  refine run_g rfl rfl beq_f (fun hg => opL_load_box (T := tb) (gt_t hg) rfl rfl rfl rfl rfl) ?_
  refine run_g rfl rfl beq_f (fun hg => o_len_l (T := tb) (gt_t hg) rfl rfl rfl) ?_
  refine run_g rfl rfl beq_f (fun hg => opL_cmp (c := decide ((((a0.fItems).length : Int)) > (80))) (gt_t hg) rfl rfl rfl rfl) ?_
  refine u0 (opL_pick_gr (v := .bool (true)) (w := .bool (decide ((((a0.fItems).length : Int)) > (80)))) rfl rfl beq_f rfl bif_v rfl rfl rfl) ?_
  refine mv rfl ?_
  refine run_g rfl rfl beq_f (fun hg => opL_fieldp (T := tb) rfl rfl rfl rfl rfl rfl rfl rfl rfl) ?_
  refine run_g rfl rfl beq_f (fun hg => opL_load_box (T := tb) (gt_t hg) rfl rfl rfl rfl rfl) ?_
  refine run_g rfl rfl beq_f (fun hg => o_len_l (T := tb) (gt_t hg) rfl rfl rfl) ?_
  refine run_g rfl rfl beq_f (fun hg => opL_cmp (c := decide ((((a0.fCoins).length : Int)) > (100))) (gt_t hg) rfl rfl rfl rfl) ?_
  refine u0 (opL_pick_gr (v := .bool (true)) (w := .bool (decide ((((a0.fCoins).length : Int)) > (100)))) rfl rfl beq_f rfl bif_v rfl rfl rfl) ?_
  refine mv rfl ?_
  refine run_g rfl rfl beq_f (fun hg => opL_fieldp (T := tb) rfl rfl rfl rfl rfl rfl rfl rfl rfl) ?_
  refine run_g rfl rfl beq_f (fun hg => opL_load_box (T := tb) (gt_t hg) rfl rfl rfl rfl rfl) ?_
  refine run_g rfl rfl beq_f (fun hg => o_len_l (T := tb) (gt_t hg) rfl rfl rfl) ?_
  refine run_g rfl rfl beq_f (fun hg => opL_cmp (c := decide ((((a0.fData).length : Int)) > (1000))) (gt_t hg) rfl rfl rfl rfl) ?_
  refine u0 (opL_pick_gr (v := .bool (true)) (w := .bool (decide ((((a0.fData).length : Int)) > (1000)))) rfl rfl beq_f rfl bif_v rfl rfl rfl) ?_
  refine mv rfl ?_
  refine run_g rfl rfl beq_f (fun hg => opL_fieldp (T := tb) rfl rfl rfl rfl rfl rfl rfl rfl rfl) ?_
  refine run_g rfl rfl beq_f (fun hg => opL_load_box (T := tb) (gt_t hg) rfl rfl rfl rfl rfl) ?_
  refine run_g rfl rfl beq_f (fun hg => opL_len_str (T := tb) (gt_t hg) rfl rfl rfl) ?_
  refine run_g rfl rfl beq_f (fun hg => opL_cmp (c := decide ((((a0.fName).size : Int)) > (100))) (gt_t hg) rfl rfl rfl rfl) ?_
  refine u0 (opL_pick_gr (v := .bool (true)) (w := .bool (decide ((((a0.fName).size : Int)) > (100)))) rfl rfl beq_f rfl bif_v rfl rfl rfl) ?_
  refine mv rfl ?_
  refine run_g rfl rfl beq_f (fun hg => opL_fieldp (T := tb) rfl rfl rfl rfl rfl rfl rfl rfl rfl) ?_
  refine run_g rfl rfl beq_f (fun hg => opL_load_box (T := tb) (gt_t hg) rfl rfl rfl rfl rfl) ?_
  refine run_g rfl rfl beq_f (fun hg => opL_len_str (T := tb) (gt_t hg) rfl rfl rfl) ?_
  refine run_g rfl rfl beq_f (fun hg => opL_cmp (c := decide ((((a0.fOther).size : Int)) > (100))) (gt_t hg) rfl rfl rfl rfl) ?_
  refine u0 (opL_pick_gr (v := .bool (true)) (w := .bool (decide ((((a0.fOther).size : Int)) > (100)))) rfl rfl beq_f rfl bif_v rfl rfl rfl) ?_
  refine mv rfl ?_
  refine run_g rfl rfl beq_f (fun hg => opL_fieldp (T := tb) rfl rfl rfl rfl rfl rfl rfl rfl rfl) ?_
  refine run_g rfl rfl beq_f (fun hg => opL_fieldp (T := tb) (gt_t hg) rfl rfl rfl rfl rfl rfl rfl rfl) ?_
  refine run_g rfl rfl beq_f (fun hg => opL_load_box (T := tb) (gt_t hg) rfl rfl rfl rfl rfl) ?_
  refine run_g rfl rfl beq_f (fun hg => opL_len_str (T := tb) (gt_t hg) rfl rfl rfl) ?_
  refine run_g rfl rfl beq_f (fun hg => opL_cmp (c := decide ((((a0.fQuery.fKey).size : Int)) > (100))) (gt_t hg) rfl rfl rfl rfl) ?_
  refine u0 (opL_pick_gr (v := .bool (true)) (w := .bool (decide ((((a0.fQuery.fKey).size : Int)) > (100)))) rfl rfl beq_f rfl bif_v rfl rfl rfl) ?_
  refine rt (hL _ ?_)
  refine aw_sub (st' := ⟨[(1, .c (.ptr (1, 0) 0 0)), (49, .c (.p (.v (.bool ((bif (bif (bif (bif (bif (bif decide ((((a0.fNames).length : Int)) > (30)) then true else decide ((((a0.fItems).length : Int)) > (80))) then true else decide ((((a0.fCoins).length : Int)) > (100))) then true else decide ((((a0.fData).length : Int)) > (1000))) then true else decide ((((a0.fName).size : Int)) > (100))) then true else decide ((((a0.fOther).size : Int)) > (100))) then true else decide ((((a0.fQuery.fKey).size : Int)) > (100))))))))], [((1, 0), some (.box (List.map CV.p (e_api_Op a0))))]⟩) (Sub.nm [1, 49] [((1, 0), (1, 0))] rfl rfl) ?_
  refine cnd rfl h (fun h => ?_) fun h => ?_
  · refine tk fun L hL => ?_
    obtain ⟨hv2, h⟩ := h
    refine u0 (opL_call0 (c_law22_known  _ hv2) rfl rfl .nil rfl rfl rfl) ?_
    refine asn rfl rfl ?_
    refine rt (hL _ ?_)
    obtain rfl := h
    exact aw_ret (hQ _ _ ⟨.inr rfl, _, _, _, (.cons (.p rfl) .nil), (.cons (.c (.p _)) .nil), rfl, rfl⟩)
  · refine aw_skip (hL1 _ ?_)
    refine aw_jn (fun (p3 : Unit) => (⟨[(1, .c (.ptr (1, 0) 0 0))], [((1, 0), some (.box (List.map CV.p (e_api_Op a0))))]⟩ : St)) h (fun p3 h => ?_) (fun J3 L3 hL3 h => ?_)
    · refine aw_jn (fun (p9 : Unit) => (⟨[(1, .c (.ptr (1, 0) 0 0))], [((1, 0), some (.box (List.map CV.p (e_api_Op a0))))]⟩ : St)) h (fun p9 h => ?_) (fun J9 L9 hL9 h => ?_)
      · refine tk fun L hL => ?_
        refine u0 (opL_loads_box (T := tb) rfl rfl rfl rfl rfl rfl rfl) ?_
        obtain ⟨v15, hv15, h⟩ := h
        refine ul (opL_call (c_operation_Encode _ _ hv15) rfl rfl (.cons (.agg (.cons (.p _) (.cons (.p _) (.cons (.p _) (.cons (.p _) (.cons (.p _) (.cons (.p _) (.cons (.p _) (.cons (.p _) (.cons (.p _) (.cons (.p _) (.cons (.p _) (.cons (.p _) (.cons (.p _) (.cons (.p _) (.cons (.p _) (.cons (.p _) (.cons (.p _) (.cons (.p _) (.cons (.p _) (.cons (.p _) (.cons (.p _) (.cons (.p _) .nil))))))))))))))))))))))) .nil) rfl rfl rfl) ?_
        refine u0 (opL_move_t rfl rfl) ?_
        refine u0 (opL_extract_c rfl rfl rfl) ?_
        refine u0 (opL_extract_c rfl rfl rfl) ?_
        refine asn rfl rfl ?_
        refine asn rfl rfl ?_
        refine rt (hL _ ?_)
        refine tk fun L hL => ?_
        refine u0 (opL_loads_box (T := tb) rfl rfl rfl rfl rfl rfl rfl) ?_
        obtain ⟨v16, hv16, h⟩ := h
        refine ul (opL_call (c_ref22_Encode _ _ hv16) rfl rfl (.cons (.agg (.cons (.p _) (.cons (.p _) (.cons (.p _) (.cons (.p _) (.cons (.p _) (.cons (.p _) (.cons (.p _) (.cons (.p _) (.cons (.p _) (.cons (.p _) (.cons (.p _) (.cons (.p _) (.cons (.p _) (.cons (.p _) (.cons (.p _) (.cons (.p _) (.cons (.p _) (.cons (.p _) (.cons (.p _) (.cons (.p _) (.cons (.p _) (.cons (.p _) .nil))))))))))))))))))))))) .nil) rfl rfl rfl) ?_
        refine u0 (opL_move_t rfl rfl) ?_
        refine u0 (opL_extract_c rfl rfl rfl) ?_
        refine u0 (opL_extract_c rfl rfl rfl) ?_
        refine asn rfl rfl ?_
        refine asn rfl rfl ?_
        refine rt (hL _ ?_)
        refine dk mixed (fun L hL => ?_)
        refine u0 (opL_loads_box (T := tb) rfl rfl rfl rfl rfl rfl rfl) ?_
        obtain ⟨v17, hv17, h⟩ := h
        refine u0 (opL_call0 (c_operation_Validate _ _ hv17) rfl rfl (.cons (.agg (.cons (.p _) (.cons (.p _) (.cons (.p _) (.cons (.p _) (.cons (.p _) (.cons (.p _) (.cons (.p _) (.cons (.p _) (.cons (.p _) (.cons (.p _) (.cons (.p _) (.cons (.p _) (.cons (.p _) (.cons (.p _) (.cons (.p _) (.cons (.p _) (.cons (.p _) (.cons (.p _) (.cons (.p _) (.cons (.p _) (.cons (.p _) (.cons (.p _) .nil))))))))))))))))))))))) .nil) rfl rfl rfl) ?_
        refine u0 (opL_loads_box (T := tb) rfl rfl rfl rfl rfl rfl rfl) ?_
        obtain ⟨v18, hv18, h⟩ := h
        refine u0 (opL_call0 (c_ref22_Validate _ _ hv18) rfl rfl (.cons (.agg (.cons (.p _) (.cons (.p _) (.cons (.p _) (.cons (.p _) (.cons (.p _) (.cons (.p _) (.cons (.p _) (.cons (.p _) (.cons (.p _) (.cons (.p _) (.cons (.p _) (.cons (.p _) (.cons (.p _) (.cons (.p _) (.cons (.p _) (.cons (.p _) (.cons (.p _) (.cons (.p _) (.cons (.p _) (.cons (.p _) (.cons (.p _) (.cons (.p _) .nil))))))))))))))))))))))) .nil) rfl rfl rfl) ?_
        refine u0 (opL_cmp (c := ((v17) == (v18))) rfl rfl rfl rfl rfl) ?_
        refine mv rfl ?_
        refine run_g rfl rfl beq_t (fun hg => opL_move_c rfl rfl) ?_
        refine run_g rfl rfl beq_t (fun hg => opL_move_c rfl rfl) ?_
        refine run_g rfl rfl beq_t (fun hg => opL_cmp (c := ((v15.2) == (v16.2))) (gt_t hg) (gt_t hg) rfl rfl rfl) ?_
        refine u0 (opL_pick_gl (v := .bool (((v15.2) == (v16.2)))) (w := .bool (false)) rfl rfl beq_t rfl bif_v rfl rfl rfl) ?_
        refine mv rfl ?_
        refine run_g rfl rfl beq_t (fun hg => opL_move_c rfl rfl) ?_
        refine run_g rfl rfl beq_t (fun hg => o_string_sl (T := tb) (gt_t hg) rfl rfl rfl rfl rfl rfl rfl rfl rfl) ?_
        refine run_g rfl rfl beq_t (fun hg => opL_move_c rfl rfl) ?_
        refine run_g rfl rfl beq_t (fun hg => o_string_sl (T := tb) (gt_t hg) rfl rfl rfl rfl rfl rfl rfl rfl rfl) ?_
        refine run_g rfl rfl beq_t (fun hg => opL_str (c := ((strOfNums (v15.1)).toList == (strOfNums (v16.1)).toList)) (gt_t hg) (gt_t hg) rfl rfl rfl) ?_
        refine u0 (opL_pick_gl (v := .bool (((strOfNums (v15.1)).toList == (strOfNums (v16.1)).toList))) (w := .bool (false)) rfl rfl beq_t rfl bif_v rfl rfl rfl) ?_
        refine mv rfl ?_
        obtain ⟨v19, hv19, h⟩ := h
        refine run_g rfl rfl beq_t (fun hg => opL_call0 (c_law22_known  _ (hv19 hg)) rfl rfl .nil rfl rfl rfl) ?_
        refine u0 (opL_pick_gl (v := .bool (v19)) (w := .bool (false)) rfl rfl beq_t rfl bif_v rfl rfl rfl) ?_
        refine asn rfl rfl ?_
        refine rd (hL _ ?_)
        refine aw_sub (st' := ⟨[(2, .c (.p (.v (.bool ((bif (bif (bif ((v17) == (v18)) then ((v15.2) == (v16.2)) else false) then ((strOfNums (v15.1)).toList == (strOfNums (v16.1)).toList) else false) then v19 else false))))))], []⟩) (Sub.nm [2] [] rfl rfl) ?_
        obtain rfl := h
        exact aw_ret (hQ _ _ ⟨.inr rfl, _, _, _, (.cons (.p rfl) .nil), (.cons (.c (.p _)) .nil), rfl, rfl⟩)
      · refine tk fun L hL => ?_
        refine asn rfl rfl ?_
        refine rt (hL _ ?_)
        refine aw_block ?_
        refine aw_lp (fun (s10 : Int) => (⟨[(1, .c (.ptr (1, 0) 0 0)), (4, .c (.p (.v (.int .i64 (s10)))))], [((1, 0), some (.box (List.map CV.p (e_api_Op a0))))]⟩ : St)) h (Sub.nm [1, 4] [((1, 0), (1, 0))] rfl (by kernel_rfl)) (fun X10 L10 hL10 s10 h => ?_)
        refine sk fun L11 hL11 => ?_
        refine tk fun L hL => ?_
        refine mv rfl ?_
        refine u0 (opL_fieldp (T := tb) rfl rfl rfl rfl rfl rfl rfl rfl rfl) ?_
        refine u0 (opL_load_box (T := tb) rfl rfl rfl rfl rfl rfl) ?_
        refine u0 (o_len_l (T := tb) rfl rfl rfl rfl) ?_
        refine u0 (opL_cmp (c := decide ((s10) < (((a0.fItems).length : Int)))) rfl rfl rfl rfl rfl) ?_
        refine rt (hL _ ?_)
        refine cnd rfl h (fun h => ?_) fun h => ?_
        · refine aw_skip (hL11 _ ?_)
          refine sk fun L12 hL12 => ?_
          refine aw_block ?_
          refine tk fun L hL => ?_
          refine u0 (opL_fieldp (T := tb) rfl rfl rfl rfl rfl rfl rfl rfl rfl) ?_
          refine u0 (opL_load_box (T := tb) rfl rfl rfl rfl rfl rfl) ?_
          refine mv rfl ?_
          obtain ⟨v13, hv13, h⟩ := h
          refine u0 (o_idx_l (T := tb) hv13 rfl rfl rfl rfl rfl rfl rfl rfl) ?_
          refine u0 (opL_fielde (T := tb) rfl rfl rfl rfl rfl rfl rfl rfl) ?_
          refine u0 (opL_load_ep (T := tb) rfl rfl rfl rfl rfl) ?_
          refine u0 (opL_len_str (T := tb) rfl rfl rfl rfl) ?_
          refine u0 (opL_cmp (c := decide ((((v13.fKey).size : Int)) > (100))) rfl rfl rfl rfl rfl) ?_
          refine rt (hL _ ?_)
          refine cnd rfl h (fun h => ?_) fun h => ?_
          · refine tk fun L hL => ?_
            obtain ⟨hv14, h⟩ := h
            refine u0 (opL_call0 (c_law22_known  _ hv14) rfl rfl .nil rfl rfl rfl) ?_
            refine asn rfl rfl ?_
            refine rt (hL _ ?_)
            obtain rfl := h
            exact aw_ret (hQ _ _ ⟨.inr rfl, _, _, _, (.cons (.p rfl) .nil), (.cons (.c (.p _)) .nil), rfl, rfl⟩)
          · refine aw_skip (hL12 _ ?_)
            refine tl fun L hL => ?_
            refine mv rfl ?_
            refine u0 (opL_add rfl rfl rfl rfl rfl) ?_
            refine asn rfl rfl ?_
            refine rt (hL _ (hL10 _ _ h (Sub.nm [1, 4] [((1, 0), (1, 0))] rfl (by kernel_rfl))))
        · refine aw_exit (hL9 _ _ h (Sub.nm [1] [((1, 0), (1, 0))] rfl (by kernel_rfl)))
    · refine tk fun L hL => ?_
      refine asn rfl rfl ?_
      refine rt (hL _ ?_)
      refine aw_block ?_
      refine aw_lp (fun (s4 : Int) => (⟨[(1, .c (.ptr (1, 0) 0 0)), (3, .c (.p (.v (.int .i64 (s4)))))], [((1, 0), some (.box (List.map CV.p (e_api_Op a0))))]⟩ : St)) h (Sub.nm [1, 3] [((1, 0), (1, 0))] rfl (by kernel_rfl)) (fun X4 L4 hL4 s4 h => ?_)
      refine sk fun L5 hL5 => ?_
      refine tk fun L hL => ?_
      refine mv rfl ?_
      refine u0 (opL_fieldp (T := tb) rfl rfl rfl rfl rfl rfl rfl rfl rfl) ?_
      refine u0 (opL_load_box (T := tb) rfl rfl rfl rfl rfl rfl) ?_
      refine u0 (o_len_l (T := tb) rfl rfl rfl rfl) ?_
      refine u0 (opL_cmp (c := decide ((s4) < (((a0.fNames).length : Int)))) rfl rfl rfl rfl rfl) ?_
      refine rt (hL _ ?_)
      refine cnd rfl h (fun h => ?_) fun h => ?_
      · refine aw_skip (hL5 _ ?_)
        refine sk fun L6 hL6 => ?_
        refine aw_block ?_
        refine tk fun L hL => ?_
        refine u0 (opL_fieldp (T := tb) rfl rfl rfl rfl rfl rfl rfl rfl rfl) ?_
        refine u0 (opL_load_box (T := tb) rfl rfl rfl rfl rfl rfl) ?_
        refine mv rfl ?_
        obtain ⟨v7, hv7, h⟩ := h
        refine u0 (o_idx_l (T := tb) hv7 rfl rfl rfl rfl rfl rfl rfl rfl) ?_
        refine u0 (opL_load_ep (T := tb) rfl rfl rfl rfl rfl) ?_
        refine u0 (opL_len_str (T := tb) rfl rfl rfl rfl) ?_
        refine u0 (opL_cmp (c := decide ((((v7).size : Int)) > (100))) rfl rfl rfl rfl rfl) ?_
        refine rt (hL _ ?_)
        refine cnd rfl h (fun h => ?_) fun h => ?_
        · refine tk fun L hL => ?_
          obtain ⟨hv8, h⟩ := h
          refine u0 (opL_call0 (c_law22_known  _ hv8) rfl rfl .nil rfl rfl rfl) ?_
          refine asn rfl rfl ?_
          refine rt (hL _ ?_)
          obtain rfl := h
          exact aw_ret (hQ _ _ ⟨.inr rfl, _, _, _, (.cons (.p rfl) .nil), (.cons (.c (.p _)) .nil), rfl, rfl⟩)
        · refine aw_skip (hL6 _ ?_)
          refine tl fun L hL => ?_
          refine mv rfl ?_
          refine u0 (opL_add rfl rfl rfl rfl rfl) ?_
          refine asn rfl rfl ?_
          refine rt (hL _ (hL4 _ _ h (Sub.nm [1, 3] [((1, 0), (1, 0))] rfl (by kernel_rfl))))
      · refine aw_exit (hL3 _ _ h (Sub.nm [1] [((1, 0), (1, 0))] rfl (by kernel_rfl)))
def W_law22_OperationSingles (a0 : Int) (Q : Bool → Prop) : Prop :=
 jn (fun (p1 : Unit) => ∃ (v7 : Bool), R_operation_Single (a0) v7 ∧ ∃ (v8 : Bool), R_ref22_Single (a0) v8 ∧ ∃ (v9 : Bool), ((((v7) == (v8))) = true → R_law22_known  v9) ∧ Q (((bif ((v7) == (v8)) then v9 else false)))) (fun (J1 : Unit → Prop) => lp (fun (X2 : Int → Prop) (s2 : Int) => (((decide ((s2) < (22))) = true → ∃ (v5 : Bool), R_operation_Single (s2) v5 ∧ ∃ (v6 : Bool), R_ref22_Single (s2) v6 ∧ ((((!((v5) == (v6)))) = true → Q ((false))) ∧ (((!((v5) == (v6)))) = false → X2 ((IntKind.i64.wrap ((s2) + (1))))))) ∧ ((decide ((s2) < (22))) = false → J1 (())))) ((-2)))
def R_law22_OperationSingles (a0 : Int) (r : Bool) : Prop := W_law22_OperationSingles a0 fun x => r = x
theorem e_law22_OperationSingles {a0 : Int} {Post : Bool → Prop} (h : W_law22_OperationSingles a0 Post) : ∃ r, R_law22_OperationSingles a0 r ∧ Post r := (show GM (W_law22_OperationSingles a0) (W_law22_OperationSingles a0) from GM.join (fun p1 => GM.ex fun v7 => GM.ex fun v8 => GM.ex fun v9 => GM.ret _) (fun _ _ J1 => GM.loop (fun X Y Q s2 X2 h => ⟨fun hc => (Exists.elim ((h).1 hc) fun v5 hv5 => ⟨v5, hv5.1, (Exists.elim (hv5.2) fun v6 hv6 => ⟨v6, hv6.1, ⟨fun hc => (hv6.2).1 hc, fun hc => X2 _ ((hv6.2).2 hc)⟩⟩)⟩), fun hc => (h).2 hc⟩) (fun _ _ X2 s2 => GM.cond (GM.ex fun v5 => GM.ex fun v6 => GM.cond (GM.ret _) (X2 _)) (J1 _)))) Post h
theorem c_law22_OperationSingles (a0 : Int) (r : Bool) (h : R_law22_OperationSingles a0 r) : Contract Try.prog 4 [.c (.v (.int .i64 (a0)))] [.c (.p (.v (.bool (r))))] [] := by
  refine contract0 tb Try.func4 rfl (by kernel_rfl) rfl rfl (Nat.le_of_ble_eq_true rfl) rfl ?_
  intro E
  unfold R_law22_OperationSingles W_law22_OperationSingles at h
  refine aw_Q (fun Q hQ => ?_)
  refine tk fun L hL => ?_
  refine asn rfl rfl ?_
  refine rt (hL _ ?_)
  refine aw_jn (fun (p1 : Unit) => (⟨[(0, .c (.p (.v (.int .i64 (a0)))))], []⟩ : St)) h (fun p1 h => ?_) (fun J1 L1 hL1 h => ?_)
  · refine tk fun L hL => ?_
    refine mv rfl ?_
    obtain ⟨v7, hv7, h⟩ := h
    refine u0 (opL_call0 (c_operation_Single _ _ hv7) rfl rfl (.cons (.c (.p _)) .nil) rfl rfl rfl) ?_
    refine mv rfl ?_
    obtain ⟨v8, hv8, h⟩ := h
    refine u0 (opL_call0 (c_ref22_Single _ _ hv8) rfl rfl (.cons (.c (.p _)) .nil) rfl rfl rfl) ?_
    refine u0 (o_eqlb (T := tb) rfl rfl rfl rfl rfl rfl) ?_
    refine mv rfl ?_
    obtain ⟨v9, hv9, h⟩ := h
    refine run_g rfl rfl beq_t (fun hg => opL_call0 (c_law22_known  _ (hv9 hg)) rfl rfl .nil rfl rfl rfl) ?_
    refine u0 (opL_pick_gl (v := .bool (v9)) (w := .bool (false)) rfl rfl beq_t rfl bif_v rfl rfl rfl) ?_
    refine asn rfl rfl ?_
    refine rt (hL _ ?_)
    refine aw_sub (st' := ⟨[(2, .c (.p (.v (.bool ((bif ((v7) == (v8)) then v9 else false))))))], []⟩) (Sub.nm [2] [] rfl rfl) ?_
    obtain rfl := h
    exact aw_ret (hQ _ _ ⟨.inr rfl, _, _, _, (.cons (.p rfl) .nil), (.cons (.c (.p _)) .nil), rfl, rfl⟩)
  · refine tk fun L hL => ?_
    refine asn rfl rfl ?_
    refine rt (hL _ ?_)
    refine aw_block ?_
    refine aw_lp (fun (s2 : Int) => (⟨[(0, .c (.p (.v (.int .i64 (a0))))), (3, .c (.p (.v (.int .i64 (s2)))))], []⟩ : St)) h (Sub.nm [0, 3] [] rfl (by kernel_rfl)) (fun X2 L2 hL2 s2 h => ?_)
    refine sk fun L3 hL3 => ?_
    refine tk fun L hL => ?_
    refine mv rfl ?_
    refine u0 (opL_cmp (c := decide ((s2) < (22))) rfl rfl rfl rfl rfl) ?_
    refine rt (hL _ ?_)
    refine cnd rfl h (fun h => ?_) fun h => ?_
    · refine aw_skip (hL3 _ ?_)
      refine sk fun L4 hL4 => ?_
      refine aw_block ?_
      refine tk fun L hL => ?_
      refine mv rfl ?_
      obtain ⟨v5, hv5, h⟩ := h
      refine u0 (opL_call0 (c_operation_Single _ _ hv5) rfl rfl (.cons (.c (.p _)) .nil) rfl rfl rfl) ?_
      refine mv rfl ?_
      obtain ⟨v6, hv6, h⟩ := h
      refine u0 (opL_call0 (c_ref22_Single _ _ hv6) rfl rfl (.cons (.c (.p _)) .nil) rfl rfl rfl) ?_
      refine u0 (o_neqb (T := tb) rfl rfl rfl rfl rfl rfl) ?_
      refine rt (hL _ ?_)
      refine cnd rfl h (fun h => ?_) fun h => ?_
      · refine tk fun L hL => ?_
        refine asn rfl rfl ?_
        refine rt (hL _ ?_)
        obtain rfl := h
        exact aw_ret (hQ _ _ ⟨.inr rfl, _, _, _, (.cons (.p rfl) .nil), (.cons (.c (.p _)) .nil), rfl, rfl⟩)
      · refine aw_skip (hL4 _ ?_)
        refine tl fun L hL => ?_
        refine mv rfl ?_
        refine u0 (opL_add rfl rfl rfl rfl rfl) ?_
        refine asn rfl rfl ?_
        refine rt (hL _ (hL2 _ _ h (Sub.nm [0, 3] [] rfl (by kernel_rfl))))
    · refine aw_exit (hL1 _ _ h (Sub.nm [0] [] rfl (by kernel_rfl)))
end Go.Proofs.Ythlaenafkihjiaa
/- The last of the printed texts. -/
/- What Validate of operations answers, in the program and in the reference: the parts. No condition. -/
namespace Go.Proofs.Ythlaenafkihjiaa
open Go.RowKit
set_option linter.unusedVariables false
set_option linter.unusedSimpArgs false
theorem bif_and {a b : Bool} : (bif a then b else false) = (a && b) := by cases a <;> rfl
theorem bif_or {a b : Bool} : (bif a then true else b) = (a || b) := by cases a <;> rfl
theorem cnd_iff {c : Bool} {A B : Prop} : ((c = true → A) ∧ (c = false → B)) ↔ if c = true then A else B := by cases c <;> simp
theorem i_ref22_within {n lo hi : Int} {r : Bool} : R_ref22_within n lo hi r ↔ r = wI n lo hi := by
  unfold R_ref22_within W_ref22_within wI; by_cases h : lo ≤ n <;> simp [h]
theorem i_ref12_within {n lo hi : Int} {r : Bool} : R_ref12_within n lo hi r ↔ r = wI n lo hi := by
  unfold R_ref12_within W_ref12_within wI; by_cases h : lo ≤ n <;> simp [h]
theorem i_sketch_inside {n lo hi : Int} {r : Bool} : R_sketch_inside n lo hi r ↔ r = wI n lo hi := by
  unfold R_sketch_inside W_sketch_inside wI; by_cases h : lo ≤ n <;> simp [h]
theorem i_ref1_between {n lo hi : Int} {r : Bool} : R_ref1_between n lo hi r ↔ r = wI n lo hi := by
  unfold R_ref1_between W_ref1_between wI; by_cases h : lo ≤ n <;> simp [h]
theorem i_names_lower {c : Int} {r : Bool} : R_names_lower c r ↔ r = wI c 97 122 := by
  unfold R_names_lower W_names_lower wI; by_cases h : (97 : Int) ≤ c <;> simp [h]
theorem i_names_digit {c : Int} {r : Bool} : R_names_digit c r ↔ r = wI c 48 57 := by
  unfold R_names_digit W_names_digit wI; by_cases h : (48 : Int) ≤ c <;> simp [h]
theorem i_operation_between {n lo hi : Int} {r : Int} : R_operation_between n lo hi r ↔ r = if lo ≤ n ∧ n ≤ hi then 0 else 5 := by
  unfold R_operation_between W_operation_between
  by_cases h : n < lo
  · simp [h]; rw [if_neg (by omega)]
  · by_cases h2 : n > hi
    · simp [h, h2]; rw [if_neg (by omega)]
    · simp [h, h2]; rw [if_pos (by omega)]
theorem key_dec {s : ByteArray} : (decide (1 ≤ (s.size : Int)) && decide ((s.size : Int) ≤ 32)) = decide (1 ≤ s.size ∧ s.size ≤ 32) := by
  rw [Bool.decide_and]; congr 1 <;> exact decide_eq_decide.2 (by omega)
theorem i_names_IsKey {s : ByteArray} {r : Bool} : R_names_IsKey s r ↔ r = decide (1 ≤ s.size ∧ s.size ≤ 32) := by
  unfold R_names_IsKey W_names_IsKey; rw [bif_and, ← key_dec]
theorem i_ref1_IsKey {s : ByteArray} {r : Bool} : R_ref1_IsKey s r ↔ r = decide (1 ≤ s.size ∧ s.size ≤ 32) := by
  unfold R_ref1_IsKey W_ref1_IsKey; rw [bif_and, ← key_dec]
def parE (k s d z : Int) : Int :=
  if k = 1 then (if s ≠ 0 ∨ d ≠ 0 ∨ z ≠ 0 then 10 else 0)
  else if k = 2 then (if ¬ (1 ≤ d ∧ d ≤ 8 ∧ 1 ≤ s ∧ s ≤ 64) then 5 else 0)
  else if k = 3 then (if ¬ (2 ≤ s ∧ s ≤ 8) then 5 else if d ≠ 0 then 10 else 0)
  else if k = 4 ∨ k = 5 then (if ¬ (1 ≤ s ∧ s ≤ 32) then 5 else if d ≠ 0 ∨ z ≠ 0 then 10 else 0)
  else if k = 6 then (if ¬ (2 ≤ s ∧ s ≤ 32 ∧ s % 2 = 0) then 5 else if d ≠ 0 ∨ z ≠ 0 then 10 else 0)
  else 8
theorem f_sketch_ValidateParams (p : T_api_Params) : R_sketch_ValidateParams p (parE p.fKind p.fSize p.fDepth p.fSeed) := by
  unfold R_sketch_ValidateParams W_sketch_ValidateParams
  simp only [jn, i_sketch_inside, exists_eq_left, bif_and, bif_or]
  obtain ⟨k, s, d, z⟩ := p
  simp only
  by_cases h1 : k = 1
  · subst h1; by_cases hs : s = 0 <;> by_cases hd : d = 0 <;> by_cases hz : z = 0 <;> simp [parE, hs, hd, hz]
  by_cases h2 : k = 2
  · subst h2
    by_cases hd : wI d 1 8 = true <;> by_cases hs : wI s 1 64 = true <;> simp [parE, hs, hd] <;> simp [wI] at hs hd <;> omega
  by_cases h3 : k = 3
  · subst h3
    by_cases hd : d = 0 <;> by_cases hs : wI s 2 8 = true <;> simp [parE, hs, hd] <;> simp [wI] at hs hd <;> omega
  by_cases h4 : k = 4 ∨ k = 5
  · have hk : (k == 4 || k == 5) = true := by simpa using h4
    by_cases hd : d = 0 <;> by_cases hz : z = 0 <;> by_cases hs : wI s 1 32 = true <;> rcases h4 with rfl | rfl <;> simp [parE, hs, hd, hz] <;> simp [wI] at hs hd <;> omega
  by_cases h6 : k = 6
  · subst h6
    by_cases hs : wI s 2 32 = true
    · have hs' : 2 ≤ s ∧ s ≤ 32 := by simpa [wI] using hs
      have ht : s.tmod 2 = s % 2 := Int.tmod_eq_emod_of_nonneg (by omega)
      by_cases hm : s % 2 = 0 <;> by_cases hd : d = 0 <;> by_cases hz : z = 0 <;> simp [parE, hs, hd, hz, ht, hm, hs']
    · have hs' : ¬ (2 ≤ s ∧ s ≤ 32) := by simpa [wI] using hs
      simp [parE, hs]; omega
  · have h4' : ¬ k = 4 ∧ ¬ k = 5 := by omega
    simp [parE, h1, h2, h3, h4'.1, h4'.2, h6]
theorem f_ref12_ValidateParams (p : T_api_Params) : R_ref12_ValidateParams p (parE p.fKind p.fSize p.fDepth p.fSeed) := by
  unfold R_ref12_ValidateParams W_ref12_ValidateParams
  simp only [jn, i_ref12_within, exists_eq_left, bif_and, bif_or]
  obtain ⟨k, s, d, z⟩ := p
  simp only
  by_cases h1 : k = 1
  · subst h1; by_cases hs : s = 0 <;> by_cases hd : d = 0 <;> by_cases hz : z = 0 <;> simp [parE, hs, hd, hz]
  by_cases h2 : k = 2
  · subst h2
    by_cases hd : wI d 1 8 = true <;> by_cases hs : wI s 1 64 = true <;> simp [parE, hs, hd] <;> simp [wI] at hs hd <;> omega
  by_cases h3 : k = 3
  · subst h3
    by_cases hd : d = 0 <;> by_cases hs : wI s 2 8 = true <;> simp [parE, hs, hd] <;> simp [wI] at hs hd <;> omega
  by_cases h4 : k = 4 ∨ k = 5
  · have hk : (k == 4 || k == 5) = true := by simpa using h4
    by_cases hd : d = 0 <;> by_cases hz : z = 0 <;> by_cases hs : wI s 1 32 = true <;> rcases h4 with rfl | rfl <;> simp [parE, hs, hd, hz] <;> simp [wI] at hs hd <;> omega
  by_cases h6 : k = 6
  · subst h6
    by_cases hs : wI s 2 32 = true
    · have hs' : 2 ≤ s ∧ s ≤ 32 := by simpa [wI] using hs
      have ht : s.tmod 2 = s % 2 := Int.tmod_eq_emod_of_nonneg (by omega)
      by_cases hm : s % 2 = 0 <;> by_cases hd : d = 0 <;> by_cases hz : z = 0 <;> simp [parE, hs, hd, hz, ht, hm, hs']
    · have hs' : ¬ (2 ≤ s ∧ s ≤ 32) := by simpa [wI] using hs
      simp [parE, hs]; omega
  · have h4' : ¬ k = 4 ∧ ¬ k = 5 := by omega
    simp [parE, h1, h2, h3, h4'.1, h4'.2, h6]
/-- The error of a query. -/
def qryE (k : Int) (key : ByteArray) (c n d : Int) : Int :=
  if ¬ (1 ≤ k ∧ k ≤ 7) then 8
  else if (k = 2 ∨ k = 6) ∧ ¬ (1 ≤ key.size ∧ key.size ≤ 32) then 7
  else if k = 5 ∧ ¬ (0 ≤ c ∧ c ≤ 32) then 5
  else if k = 7 ∧ ¬ (1 ≤ d ∧ d ≤ 1000000 ∧ 0 ≤ n ∧ n ≤ d) then 5
  else if (¬ (k = 2 ∨ k = 6) ∧ key.toList ≠ []) ∨ (k ≠ 5 ∧ c ≠ 0) ∨ (k ≠ 7 ∧ (n ≠ 0 ∨ d ≠ 0)) then 18 else 0
theorem nil_toList : (⟨#[]⟩ : ByteArray).toList = [] := by unfold ByteArray.toList; unfold ByteArray.toList.loop; simp [ByteArray.size]
theorem f_query_Validate (q : T_api_Query) : R_query_Validate q (qryE q.fKind q.fKey q.fCount q.fNum q.fDen) := by
  unfold R_query_Validate W_query_Validate
  simp only [jn, i_names_IsKey, bif_and, bif_or, nil_toList]
  obtain ⟨k, s, c, n, d⟩ := q
  simp only
  by_cases hk : 1 ≤ k ∧ k ≤ 7
  · have h7 : k = 1 ∨ k = 2 ∨ k = 3 ∨ k = 4 ∨ k = 5 ∨ k = 6 ∨ k = 7 := by omega
    clear hk; unfold qryE
    generalize s.toList = l
    rcases h7 with rfl | rfl | rfl | rfl | rfl | rfl | rfl
    all_goals simp
    all_goals grind
  · have h1 : k < 1 ∨ k > 7 := by omega
    simp [qryE, hk, h1]
theorem f_ref12_ValidateQuery (q : T_api_Query) : R_ref12_ValidateQuery q (qryE q.fKind q.fKey q.fCount q.fNum q.fDen) := by
  unfold R_ref12_ValidateQuery W_ref12_ValidateQuery
  simp only [jn, i_ref1_IsKey, i_ref12_within, exists_eq_left, bif_and, bif_or, nil_toList]
  obtain ⟨k, s, c, n, d⟩ := q
  simp only
  by_cases hk : 1 ≤ k ∧ k ≤ 7
  · have h7 : k = 1 ∨ k = 2 ∨ k = 3 ∨ k = 4 ∨ k = 5 ∨ k = 6 ∨ k = 7 := by omega
    clear hk; unfold qryE
    generalize s.toList = l
    rcases h7 with rfl | rfl | rfl | rfl | rfl | rfl | rfl
    all_goals simp [wI]
    all_goals grind
  · have h1 : k < 1 ∨ k > 7 := by omega
    have h2 : wI k 1 7 = false := by simp [wI]; omega
    simp [qryE, hk, h1, h2]
end Go.Proofs.Ythlaenafkihjiaa
/- What Validate of operations answers: names, lists, the fields a kind uses. No condition. -/
namespace Go.Proofs.Ythlaenafkihjiaa
open Go.RowKit
set_option linter.unusedVariables false
set_option linter.unusedSimpArgs false
/-- A loop that counts up to n. -/
theorem lp_for (n : Nat) (hn : n ≤ 4611686018427387904) {B : (Int → Prop) → Int → Prop} {J : Prop} (I : Nat → Prop) (h0 : I 0)
    (hB : ∀ j, j < n → I j → ∀ X : Int → Prop, (I (j + 1) → X (IntKind.i64.wrap ((j : Int) + 1))) → B X (j : Int)) (hJ : I n → J) :
    lp (fun X s => (decide (s < (n : Int)) = true → B X s) ∧ (decide (s < (n : Int)) = false → J)) 0 := by
  refine lp_up (I := fun k s => ∃ j : Nat, s = (j : Int) ∧ j ≤ n ∧ k = n - j ∧ I j) ?_ (k := n) ⟨0, rfl, by omega, by omega, h0⟩
  rintro k s ⟨j, rfl, hj, hk, hI⟩ X hX
  refine ⟨fun h => ?_, fun h => ?_⟩
  · have hj2 : (j : Int) < n := by simpa using h
    refine hB j (by omega) hI X fun hI2 => ?_
    rw [wr64 (by omega)]
    exact hX (n - (j + 1)) _ (by omega) ⟨j + 1, by omega, by omega, rfl, hI2⟩
  · have hj2 : ¬ (j : Int) < n := by simpa using h
    have : j = n := by omega
    subst this; exact hJ hI
def chr (s : ByteArray) (j : Nat) : Int := if h : j < s.size then (s[j].toNat : Int) else 0
theorem bx_chr {s : ByteArray} {j : Nat} (h : j < s.size) : bx s (j : Int) (chr s j) := bx_of rfl h (by simp [chr, h])
def okc (c : Int) : Bool := wI c 97 122 || wI c 48 57 || c == 45 || c == 46
def nmB (s : ByteArray) : Bool := decide (1 ≤ s.size ∧ s.size ≤ 16) && wI (chr s 0) 97 122 && (List.range s.size).all fun j => okc (chr s j)
theorem nmB_all {s : ByteArray} (h1 : 1 ≤ s.size ∧ s.size ≤ 16) (h2 : wI (chr s 0) 97 122 = true) (h : ∀ i, i < s.size → okc (chr s i) = true) : nmB s = true := by
  simp only [nmB, h1, h2]; simpa using h
theorem nmB_bad {s : ByteArray} {i : Nat} (hi : i < s.size) (h : okc (chr s i) = false) : nmB s = false := by
  have : ((List.range s.size).all fun j => okc (chr s j)) = false := by
    rw [List.all_eq_false]; exact ⟨i, by simpa using hi, by simp [h]⟩
  simp [nmB, this]
theorem f_names_IsName (s : ByteArray) : R_names_IsName s (nmB s) := by
  unfold R_names_IsName W_names_IsName
  simp only [i_names_lower, i_names_digit, bif_and, bif_or, jn, exists_eq_left]
  by_cases hz : 1 ≤ s.size ∧ s.size ≤ 16
  · have h1 : decide ((s.size : Int) < 1) = false := by simp; omega
    have h2 : decide ((s.size : Int) > 16) = false := by simp; omega
    rw [h1, h2]
    refine ⟨chr s 0, fun _ => bx_chr (j := 0) (by omega), wI (chr s 0) 97 122, fun _ => rfl, ?_, ?_⟩
    · intro h; simp at h; simp [nmB, h]
    · intro h
      have h3 : wI (chr s 0) 97 122 = true := by simpa using h
      refine lp_for s.size (by omega) (fun j => ∀ i, i < j → okc (chr s i) = true) (fun i hi => absurd hi (by omega)) ?_ ?_
      · intro j hj hI X hX
        refine ⟨chr s j, bx_chr hj, wI (chr s j) 48 57, fun _ => rfl, ?_, ?_⟩
        · intro hb; refine nmB_bad hj ?_; simp at hb; simp [okc, hb]
        · intro hb; refine hX fun i hi => ?_
          by_cases e : i = j
          · subst e; unfold okc; revert hb; cases wI (chr s i) 97 122 <;> cases wI (chr s i) 48 57 <;> simp <;> grind
          · exact hI i (by omega)
      · intro hI; exact nmB_all hz h3 hI
  · refine ⟨0, ?_, false, ?_, ?_, ?_⟩
    · intro h; simp at h; omega
    · intro h; simp at h; omega
    · intro h; simp [nmB, hz]
    · intro h; simp at h
theorem f_ref1_IsName (s : ByteArray) : R_ref1_IsName s (nmB s) := by
  unfold R_ref1_IsName W_ref1_IsName
  simp only [i_ref1_between, bif_and, bif_or, jn, exists_eq_left]
  by_cases hz : 1 ≤ s.size ∧ s.size ≤ 16
  · have h1 : decide ((s.size : Int) < 1) = false := by simp; omega
    have h2 : decide ((s.size : Int) > 16) = false := by simp; omega
    rw [h1, h2]
    refine ⟨chr s 0, fun _ => bx_chr (j := 0) (by omega), wI (chr s 0) 97 122, fun _ => rfl, ?_, ?_⟩
    · intro h; simp at h; simp [nmB, h]
    · intro h
      have h3 : wI (chr s 0) 97 122 = true := by simpa using h
      refine lp_for s.size (by omega) (fun j => ∀ i, i < j → okc (chr s i) = true) (fun i hi => absurd hi (by omega)) ?_ ?_
      · intro j hj hI X hX
        refine ⟨chr s j, bx_chr hj, chr s j, fun _ => bx_chr hj, wI (chr s j) 48 57, fun _ => rfl, chr s j, fun _ => bx_chr hj, chr s j, fun _ => bx_chr hj, ?_, ?_⟩
        · intro hb; refine nmB_bad hj ?_; simp at hb; simp [okc, hb]
        · intro hb; refine hX fun i hi => ?_
          by_cases e : i = j
          · subst e; unfold okc; revert hb; cases wI (chr s i) 97 122 <;> cases wI (chr s i) 48 57 <;> simp <;> grind
          · exact hI i (by omega)
      · intro hI; exact nmB_all hz h3 hI
  · refine ⟨0, ?_, false, ?_, ?_, ?_⟩
    · intro h; simp at h; omega
    · intro h; simp at h; omega
    · intro h; simp [nmB, hz]
    · intro h; simp at h
theorem f_operation_name (s : ByteArray) : R_operation_name s (if nmB s = true then 0 else 6) := by
  refine ⟨nmB s, f_names_IsName s, ?_, ?_⟩ <;> intro h <;> simp at h <;> simp [h]
def itE (x : T_api_Item) : Int := if ¬ (1 ≤ x.fKey.size ∧ x.fKey.size ≤ 32) then 7 else if ¬ (1 ≤ x.fWeight ∧ x.fWeight ≤ 4294967295) then 5 else 0
theorem f_names_ValidateItem (x : T_api_Item) : R_names_ValidateItem x (itE x) := by
  unfold R_names_ValidateItem W_names_ValidateItem itE
  simp only [i_names_IsKey, bif_and, bif_or, exists_eq_left]
  by_cases h : 1 ≤ x.fKey.size ∧ x.fKey.size ≤ 32 <;> simp [h]; grind
theorem f_ref1_ValidateItem (x : T_api_Item) : R_ref1_ValidateItem x (itE x) := by
  unfold R_ref1_ValidateItem W_ref1_ValidateItem itE
  simp only [i_ref1_IsKey, bif_and, bif_or, exists_eq_left]
  by_cases h : 1 ≤ x.fKey.size ∧ x.fKey.size ≤ 32 <;> simp [h]; grind
/-- The first number of a list that is not zero. -/
def fst0 {α : Type} (f : α → Int) : List α → Int
  | [] => 0
  | x :: r => if f x ≠ 0 then f x else fst0 f r
theorem fst0_all {α : Type} {f : α → Int} {l : List α} (h : ∀ (j : Nat) x, l[j]? = some x → f x = 0) : fst0 f l = 0 := by
  induction l with
  | nil => rfl
  | cons x r ih => simp [fst0, h 0 x rfl]; exact ih fun j x hx => h (j + 1) x (by simpa using hx)
theorem fst0_at {α : Type} {f : α → Int} {l : List α} {j : Nat} {x : α} (hx : l[j]? = some x) (hn : f x ≠ 0) (h : ∀ i, i < j → ∀ y, l[i]? = some y → f y = 0) : fst0 f l = f x := by
  induction l generalizing j with
  | nil => simp at hx
  | cons z r ih =>
    cases j with
    | zero => simp at hx; subst hx; simp [fst0, hn]
    | succ j =>
      simp [fst0, h 0 (by omega) z rfl]
      exact ih (by simpa using hx) fun i hi y hy => h (i + 1) (by omega) y (by simpa using hy)
/-- Names and items one after another. -/
theorem lp_list {α : Type} {l : List α} (hl : l.length ≤ 4611686018427387904) {B : (Int → Prop) → Int → Prop} {J : Prop} {f : α → Int}
    (hB : ∀ (j : Nat) x, l[j]? = some x → (∀ i, i < j → ∀ y, l[i]? = some y → f y = 0) → ∀ X : Int → Prop, (f x = 0 → X (IntKind.i64.wrap ((j : Int) + 1))) → B X (j : Int)) (hJ : fst0 f l = 0 → J) :
    lp (fun X s => (decide (s < (l.length : Int)) = true → B X s) ∧ (decide (s < (l.length : Int)) = false → J)) 0 := by
  refine lp_for l.length hl (fun j => ∀ i, i < j → ∀ y, l[i]? = some y → f y = 0) (fun i hi => absurd hi (by omega)) ?_ ?_
  · intro j hj hI X hX
    obtain ⟨x, hx⟩ : ∃ x, l[j]? = some x := ⟨l[j], by simp [hj]⟩
    refine hB j x hx hI X fun h0 => hX fun i hi y hy => ?_
    by_cases e : i = j
    · subst e; rw [hx] at hy; cases hy; exact h0
    · exact hI i (by omega) y hy
  · intro hI
    refine hJ (fst0_all fun j x hx => hI j ?_ x hx)
    rw [List.getElem?_eq_some_iff] at hx; exact hx.1
def nm6 (s : ByteArray) : Int := if nmB s = true then 0 else 6
def nlE (l : List ByteArray) : Int := if ¬ (1 ≤ l.length ∧ l.length ≤ 16) then 5 else fst0 nm6 l
def ilE (l : List T_api_Item) : Int := if ¬ (1 ≤ l.length ∧ l.length ≤ 64) then 5 else fst0 itE l
theorem f_operation_list (l : List ByteArray) : R_operation_list l (nlE l) := by
  unfold R_operation_list W_operation_list
  simp only [i_operation_between, exists_eq_left, jn]
  by_cases hz : 1 ≤ l.length ∧ l.length ≤ 16
  · have e : ((1 : Int) ≤ l.length ∧ (l.length : Int) ≤ 16) := by omega
    rw [if_pos e]
    refine ⟨fun h => by simp at h, fun _ => ?_⟩
    refine lp_list (f := nm6) (by omega) ?_ ?_
    · intro j x hx hb X hX
      refine ⟨x, ix_of rfl hx, nm6 x, f_operation_name x, fun h => ?_, fun h => hX (by simpa using h)⟩
      have hn : nm6 x ≠ 0 := by simpa using h
      simp only [nlE, hz, not_true, and_self, if_false]; exact fst0_at hx hn hb
    · intro h; simp [nlE, hz, h]
  · have e : ¬ ((1 : Int) ≤ l.length ∧ (l.length : Int) ≤ 16) := by omega
    rw [if_neg e]
    exact ⟨fun _ => by simp [nlE, hz], fun h => by simp at h⟩
theorem f_operation_items (l : List T_api_Item) : R_operation_items l (ilE l) := by
  unfold R_operation_items W_operation_items
  simp only [i_operation_between, exists_eq_left, jn]
  by_cases hz : 1 ≤ l.length ∧ l.length ≤ 64
  · have e : ((1 : Int) ≤ l.length ∧ (l.length : Int) ≤ 64) := by omega
    rw [if_pos e]
    refine ⟨fun h => by simp at h, fun _ => ?_⟩
    refine lp_list (f := itE) (by omega) ?_ ?_
    · intro j x hx hb X hX
      refine ⟨x, ix_of rfl hx, itE x, f_names_ValidateItem x, fun h => ?_, fun h => hX (by simpa using h)⟩
      have hn : itE x ≠ 0 := by simpa using h
      simp only [ilE, hz, not_true, and_self, if_false]; exact fst0_at hx hn hb
    · intro h; simp [ilE, hz, h]
  · have e : ¬ ((1 : Int) ≤ l.length ∧ (l.length : Int) ≤ 64) := by omega
    rw [if_neg e]
    exact ⟨fun _ => by simp [ilE, hz], fun h => by simp at h⟩
theorem f_ref22_in (x : Int) (l : List Int) (hl : l.length ≤ 100) : R_ref22_in x l (l.contains x) := by
  unfold R_ref22_in W_ref22_in
  simp only [jn]
  refine lp_list (f := fun y => if y = x then 1 else 0) (by omega) ?_ ?_
  · intro j y hy hb X hX
    refine ⟨y, ix_of rfl hy, fun h => ?_, fun h => hX (by simp at h; simp [h])⟩
    simp at h; subst h; simp; exact List.mem_of_getElem? hy
  · intro h
    cases hc : l.contains x with
    | false => rfl
    | true =>
      exfalso
      have hm : x ∈ l := by simpa using hc
      obtain ⟨j, hj⟩ := List.getElem?_of_mem hm
      have : ∀ (l : List Int), x ∈ l → fst0 (fun y => if y = x then 1 else 0) l ≠ 0 := by
        intro l; induction l with
        | nil => simp
        | cons a r ih => intro h; unfold fst0; by_cases e : a = x <;> simp [e]; have := ih (by simpa [Ne.symm e] using h); simpa using this
      exact this l hm h
def useT (k : Int) : T_A13_Bool := T_A13_Bool.mk ([1, 2, 3, 5, 6, 7, 8, 16].contains k) ([3, 7, 8].contains k) ([9].contains k) ([1].contains k) ([6].contains k) ([6, 7, 8].contains k) ([8].contains k) ([10, 11, 12, 15].contains k) ([10, 12, 15].contains k) ([13, 14].contains k) ([13].contains k) ([5, 10].contains k) ([16].contains k)
theorem f_ref22_Uses (k : Int) : R_ref22_Uses k (useT k) := by
  unfold R_ref22_Uses W_ref22_Uses
  exact ⟨_, f_ref22_in _ _ (by simp), _, f_ref22_in _ _ (by simp), _, f_ref22_in _ _ (by simp), _, f_ref22_in _ _ (by simp), _, f_ref22_in _ _ (by simp), _, f_ref22_in _ _ (by simp), _, f_ref22_in _ _ (by simp), _, f_ref22_in _ _ (by simp), _, f_ref22_in _ _ (by simp), _, f_ref22_in _ _ (by simp), _, f_ref22_in _ _ (by simp), _, f_ref22_in _ _ (by simp), _, f_ref22_in _ _ (by simp), rfl⟩
def lstE (x : T_api_Op) (a b : Bool) : Int := if a = true ∧ nlE x.fNames ≠ 0 then nlE x.fNames else if b = true then ilE x.fItems else 0
theorem f_ref22_lists (x : T_api_Op) (a b : Bool) : R_ref22_lists x a b (lstE x a b) := by
  have part2 : ((b = true → ∃ v, R_ref22_within (x.fItems.length : Int) 1 64 v ∧ ((!v) = true → ilE x.fItems = 5) ∧ ((!v) = false → fst0 itE x.fItems = ilE x.fItems))) := by
    intro hb
    refine ⟨_, i_ref22_within.2 rfl, ?_, ?_⟩ <;> intro h <;> simp [wI] at h <;> simp [ilE] <;> omega
  unfold R_ref22_lists W_ref22_lists
  simp only [i_ref22_within, exists_eq_left, jn]
  have rest : (a = true → nlE x.fNames = 0) → (b = true →
          (((!wI (↑x.fItems.length) 1 64) = true → lstE x a b = 5) ∧
            ((!wI (↑x.fItems.length) 1 64) = false → lp (fun X12 s12 => (decide (s12 < (x.fItems.length : Int)) = true →
                      ∃ v15, ix x.fItems s12 v15 ∧ ∃ v16, R_ref1_ValidateItem v15 v16 ∧ ((v16 != 0) = true → lstE x a b = v16) ∧ ((v16 != 0) = false → X12 (IntKind.i64.wrap (s12 + 1)))) ∧
                    (decide (s12 < (x.fItems.length : Int)) = false → lstE x a b = 0)) 0))) ∧ (b = false → lstE x a b = 0) := by
    intro ha
    have e0 : lstE x a b = if b = true then ilE x.fItems else 0 := by
      unfold lstE; rw [if_neg (fun h => h.2 (ha h.1))]
    rw [e0]
    refine ⟨fun hb => ?_, fun hb => by simp [hb]⟩
    rw [if_pos hb]
    by_cases hz : 1 ≤ x.fItems.length ∧ x.fItems.length ≤ 64
    · have e : wI (x.fItems.length : Int) 1 64 = true := by simp [wI]; omega
      refine ⟨fun h => by simp [e] at h, fun _ => ?_⟩
      refine lp_list (f := itE) (by omega) ?_ ?_
      · intro j y hy hbb X hX
        refine ⟨y, ix_of rfl hy, itE y, f_ref1_ValidateItem y, fun h => ?_, fun h => hX (by simpa using h)⟩
        have hn : itE y ≠ 0 := by simpa using h
        simp only [ilE, hz, not_true, and_self, if_false]; exact fst0_at hy hn hbb
      · intro h; simp [ilE, hz, h]
    · have e : wI (x.fItems.length : Int) 1 64 = false := by simp [wI]; omega
      exact ⟨fun _ => by simp [ilE, hz], fun h => by simp [e] at h⟩
  refine ⟨fun ha => ?_, fun ha => rest (by simp [ha])⟩
  by_cases hz : 1 ≤ x.fNames.length ∧ x.fNames.length ≤ 16
  · have e : wI (x.fNames.length : Int) 1 16 = true := by simp [wI]; omega
    refine ⟨fun h => by simp [e] at h, fun _ => ?_⟩
    refine lp_list (f := nm6) (by omega) ?_ ?_
    · intro j y hy hbb X hX
      refine ⟨y, ix_of rfl hy, nmB y, f_ref1_IsName y, fun h => ?_, fun h => hX (by simp at h; simp [nm6, h])⟩
      have hn : nm6 y = 6 := by simp at h; simp [nm6, h]
      have : nlE x.fNames = 6 := by
        simp only [nlE, hz, not_true, and_self, if_false]; rw [fst0_at hy (by simp [hn]) hbb, hn]
      simp [lstE, ha, this]
    · intro h
      exact rest fun _ => by simp [nlE, hz, h]
  · have e : wI (x.fNames.length : Int) 1 16 = false := by simp [wI]; omega
    have : nlE x.fNames = 5 := by simp [nlE, hz]
    exact ⟨fun _ => by simp [lstE, ha, this], fun h => by simp [e] at h⟩
end Go.Proofs.Ythlaenafkihjiaa
/- Small laws on bits of ints. No condition. -/
namespace Go.Proofs.Ythlaenafkihjiaa
open Go.RowKit Go.ChangeShapes Go.WideShapes
set_option linter.unusedVariables false
set_option linter.unusedSimpArgs false
theorem and_mask (x : Int) (j : Nat) (hj : j ≤ 62) (m : Int) (hm : m = 2 ^ j - 1) : bits BinOp.and IntKind.i64 x m = x % 2 ^ j := by
  have hp : (2 : Nat) ^ j ≤ 2 ^ 62 := Nat.pow_le_pow_right (by omega) hj
  have hp1 : 1 ≤ (2 : Nat) ^ j := Nat.one_le_two_pow
  have e0 : (2 : Int) ^ j = ((2 ^ j : Nat) : Int) := by simp
  have e1 : m = ((2 ^ j - 1 : Nat) : Int) := by rw [hm, e0]; omega
  show IntKind.i64.wrap ((BitVec.ofInt 64 x &&& BitVec.ofInt 64 m).toNat : Int) = _
  rw [BitVec.toNat_and, e1, BitVec.ofInt_natCast, BitVec.toNat_ofNat, Nat.mod_eq_of_lt (a := 2 ^ j - 1) (by omega), Nat.and_two_pow_sub_one_eq_mod, BitVec.toNat_ofInt]
  have hd : ((2 ^ j : Nat) : Int) ∣ (2 ^ 64 : Nat) := by
    refine ⟨((2 ^ (64 - j) : Nat) : Int), ?_⟩
    rw [← Int.natCast_mul, ← Nat.pow_add, show j + (64 - j) = 64 from by omega]
  have h2 : ((x % ((2 ^ 64 : Nat) : Int)).toNat % 2 ^ j : Nat) = (x % (2 ^ j : Nat)).toNat := by
    have hx0 : 0 ≤ x % ((2 ^ 64 : Nat) : Int) := Int.emod_nonneg _ (by decide)
    have hx1 : 0 ≤ x % ((2 ^ j : Nat) : Int) := Int.emod_nonneg _ (by omega)
    apply Int.ofNat.inj
    show (((x % ((2 ^ 64 : Nat) : Int)).toNat % 2 ^ j : Nat) : Int) = (((x % (2 ^ j : Nat)).toNat : Nat) : Int)
    rw [Int.natCast_emod, Int.toNat_of_nonneg hx0, Int.toNat_of_nonneg hx1, Int.emod_emod_of_dvd _ hd]
  rw [h2, Int.toNat_of_nonneg (Int.emod_nonneg _ (by omega)), e0, IntKind.wrap_i64]
  have hb0 : 0 ≤ x % ((2 ^ j : Nat) : Int) := Int.emod_nonneg _ (by omega)
  have hb1 : x % ((2 ^ j : Nat) : Int) < ((2 ^ j : Nat) : Int) := Int.emod_lt_of_pos _ (by omega)
  omega
theorem xor_u8_ne {a b : Int} (a0 : 0 ≤ a) (a1 : a ≤ 255) (b0 : 0 ≤ b) (b1 : b ≤ 255) (hb : b ≠ 0) : bits BinOp.xor IntKind.u8 a b ≠ a := by
  obtain ⟨A, rfl⟩ := Int.eq_ofNat_of_zero_le a0
  obtain ⟨B, rfl⟩ := Int.eq_ofNat_of_zero_le b0
  have hA : A < 2 ^ 8 := by omega
  have hB : B < 2 ^ 8 := by omega
  have e : bits BinOp.xor IntKind.u8 (A : Int) (B : Int) = ((A ^^^ B : Nat) : Int) := by
    show IntKind.u8.wrap ((BitVec.ofInt 8 (A : Int) ^^^ BitVec.ofInt 8 (B : Int)).toNat : Int) = _
    rw [BitVec.toNat_xor, BitVec.ofInt_natCast, BitVec.ofInt_natCast, BitVec.toNat_ofNat, BitVec.toNat_ofNat, Nat.mod_eq_of_lt hA, Nat.mod_eq_of_lt hB]
    have := Nat.xor_lt_two_pow hA hB
    rw [IntKind.wrap_u8]
    omega
  rw [e]
  intro h
  have h' : A ^^^ B = A := by exact_mod_cast h
  have : B = 0 := by
    have h2 := congrArg (fun z => A ^^^ z) h'
    simpa [← Nat.xor_assoc] using h2
  exact hb (by rw [this]; rfl)
end Go.Proofs.Ythlaenafkihjiaa
/- Small lemmas about the words of the relations. No condition. -/
namespace Go.Proofs.Ythlaenafkihjiaa
open Go.RowKit
set_option linter.unusedVariables false
set_option linter.unusedSimpArgs false
theorem bA (x : Int) (j : Nat) (hj : j ≤ 62) (m : Int) (hm : m = 2 ^ j - 1) : bAnd .i64 x m = x % 2 ^ j := and_mask x j hj m hm
theorem bA1 (x : Int) : bAnd .i64 x 1 = x % 2 := bA x 1 (by decide) 1 (by decide)
theorem bA3 (x : Int) : bAnd .i64 x 3 = x % 4 := bA x 2 (by decide) 3 (by decide)
theorem bA7 (x : Int) : bAnd .i64 x 7 = x % 8 := bA x 3 (by decide) 7 (by decide)
theorem bA15 (x : Int) : bAnd .i64 x 15 = x % 16 := bA x 4 (by decide) 15 (by decide)
theorem bA31 (x : Int) : bAnd .i64 x 31 = x % 32 := bA x 5 (by decide) 31 (by decide)
theorem bA63 (x : Int) : bAnd .i64 x 63 = x % 64 := bA x 6 (by decide) 63 (by decide)
theorem bA255 (x : Int) : bAnd .i64 x 255 = x % 256 := bA x 8 (by decide) 255 (by decide)
theorem bA65535 (x : Int) : bAnd .i64 x 65535 = x % 65536 := bA x 16 (by decide) 65535 (by decide)
theorem bA16777215 (x : Int) : bAnd .i64 x 16777215 = x % 16777216 := bA x 24 (by decide) 16777215 (by decide)
theorem tmod_pos {a b : Int} (ha : 0 ≤ a) : a.tmod b = a % b := Int.tmod_eq_emod_of_nonneg ha
theorem ix_any {α : Type} {l : List α} {n : Int} (h0 : 0 ≤ n) (h1 : n < l.length) : ∃ x, ix l n x ∧ l[n.toNat]? = some x := by
  have : n.toNat < l.length := by omega
  exact ⟨l[n.toNat], ⟨h0, by simp [this]⟩, by simp [this]⟩
theorem wrapu {n : Int} (h : 0 ≤ n ∧ n ≤ 18446744073709551615) : IntKind.u64.wrap n = n := by rw [IntKind.wrap_u64]; omega
theorem size_strOfNums (l : List Int) : (strOfNums l).size = l.length := by simp [strOfNums, ByteArray.size]
theorem shr8 (x : Int) : iShr .i64 x 8 = x / 256 := by
  show x.fdiv (2 ^ 8) = x / 256
  rw [Int.fdiv_eq_ediv_of_nonneg x (by decide)]; rfl
end Go.Proofs.Ythlaenafkihjiaa
/- The plain functions of the layer wire, over lists of numbers. No condition. -/
namespace Go.Proofs.Ythlaenafkihjiaa
open Go.RowKit Go.ChangeShapes Go.WideShapes
set_option linter.unusedVariables false
set_option linter.unusedSimpArgs false

/-- The low k bytes of n, the highest first. -/
def beB : Nat → Int → List Int
  | 0, _ => []
  | k + 1, n => (n / 2 ^ (8 * k)) % 256 :: beB k n
theorem length_beB (k : Nat) (n : Int) : (beB k n).length = k := by induction k with
  | zero => rfl
  | succ k ih => simp [beB, ih]

/-- How many bytes n has, at least one and at most eight. -/
def nB (n : Int) : Nat :=
  if n < 256 then 1 else if n < 65536 then 2 else if n < 16777216 then 3 else if n < 4294967296 then 4 else
  if n < 1099511627776 then 5 else if n < 281474976710656 then 6 else if n < 72057594037927936 then 7 else 8
theorem nB_range (n : Int) : 1 ≤ nB n ∧ nB n ≤ 8 := by unfold nB; repeat' split
                                                       all_goals omega

def encU (n : Int) : List Int := if n < 248 then [n] else (247 + (nB n : Int)) :: beB (nB n) n
/-- EncodeUint: the bytes, the error. -/
def encL (n : Int) : List Int := if n < 0 ∨ n > 4611686018427387904 then [] else encU n
def encE (n : Int) : Int := if n < 0 ∨ n > 4611686018427387904 then 5 else 0

theorem nB_up (n : Int) (k : Nat) (h1 : 1 ≤ k) (h8 : k < 8) (hlt : k < nB n) : 0 < n / 2 ^ (8 * k) := by
  unfold nB at hlt
  have hk : k = 1 ∨ k = 2 ∨ k = 3 ∨ k = 4 ∨ k = 5 ∨ k = 6 ∨ k = 7 := by omega
  rcases hk with rfl | rfl | rfl | rfl | rfl | rfl | rfl <;> simp only [Nat.reduceMul, Int.reducePow] <;> (repeat' split at hlt) <;> omega
theorem nB_end (n : Int) (k : Nat) (h0 : 0 ≤ n) (h1 : 1 ≤ k) (h8 : k < 8) (hlt : nB n ≤ k) : n / 2 ^ (8 * k) ≤ 0 := by
  unfold nB at hlt
  have hk : k = 1 ∨ k = 2 ∨ k = 3 ∨ k = 4 ∨ k = 5 ∨ k = 6 ∨ k = 7 := by omega
  rcases hk with rfl | rfl | rfl | rfl | rfl | rfl | rfl <;> simp only [Nat.reduceMul, Int.reducePow] <;> (repeat' split at hlt) <;> omega
theorem length_encU (n : Int) : (encU n).length ≤ 9 := by
  unfold encU
  have := nB_range n
  split
  · simp
  · simp [length_beB]; omega
theorem enc_push {n : Int} {xs : List Int} {j : Nat} {t : List Int} (h : xs ++ beB (j + 1) n = t) : (xs ++ [n / 2 ^ (8 * j) % 256]) ++ beB j n = t := by
  rw [← h]; simp [beB]
theorem enc_len {n : Int} {xs : List Int} {j : Nat} {t : List Int} (h : xs ++ beB j n = t) : xs.length + j = t.length := by
  rw [← h]; simp [length_beB]
theorem nB_pos (n : Int) (k : Nat) (h0 : 0 < n) (hlt : k < nB n) : 0 < n / 2 ^ (8 * k) := by
  have hr := nB_range n
  by_cases h : k = 0
  · subst h; simpa using h0
  · exact nB_up n k (by omega) (by omega) hlt
theorem nB_out (n : Int) (k : Nat) (h0 : 0 ≤ n) (h1 : n ≤ 4611686018427387904) (hlt : nB n ≤ k) (h8 : k ≤ 8) : n / 2 ^ (8 * k) ≤ 0 := by
  have hr := nB_range n
  by_cases h : k = 8
  · subst h; simp only [Nat.reduceMul, Int.reducePow]; omega
  · exact nB_end n k h0 (by omega) (by omega) hlt
theorem div_step (n : Int) (j : Nat) : n / 2 ^ (8 * j) / 256 = n / 2 ^ (8 * (j + 1)) := by
  rw [Int.ediv_ediv_of_nonneg (by exact Int.le_of_lt (Int.pow_pos (by omega))), show 8 * (j + 1) = 8 * j + 8 from by omega, Int.pow_add]
  rfl
/-- The number that bytes make, the highest first. -/
def beV (l : List Int) : Int := l.foldl (fun x c => x * 256 + c) 0
theorem beV_snoc (l : List Int) (c : Int) : beV (l ++ [c]) = beV l * 256 + c := by simp [beV]
theorem beV_aux (l : List Int) (h : ∀ n ∈ l, (Lit.int .u8 n).wf = true) : ∀ x : Int, 0 ≤ x → 0 ≤ l.foldl (fun x c => x * 256 + c) x ∧ l.foldl (fun x c => x * 256 + c) x < (x + 1) * 256 ^ l.length := by
  induction l with
  | nil => intro x hx; simp; omega
  | cons c l ih =>
    intro x hx
    have hc := bounds_u8 (h c (by simp))
    have := ih (fun n hn => h n (by simp [hn])) (x * 256 + c) (by omega)
    refine ⟨this.1, Int.lt_of_lt_of_le this.2 ?_⟩
    rw [List.length_cons, Int.pow_succ, Int.mul_comm (256 ^ l.length) 256, ← Int.mul_assoc]
    exact Int.mul_le_mul_of_nonneg_right (by omega) (Int.pow_nonneg (by omega))
theorem beV_lt (l : List Int) (h : ∀ n ∈ l, (Lit.int .u8 n).wf = true) : 0 ≤ beV l ∧ beV l < 256 ^ l.length := by
  have := beV_aux l h 0 (by omega)
  simpa [beV] using this
theorem beV_step {X c : Int} (h0 : 0 ≤ X) (h1 : X < 72057594037927936) (c0 : 0 ≤ c) (c1 : c ≤ 255) : bits BinOp.or IntKind.u64 (X * 256) c = X * 256 + c :=
  bits_join .u64 64 (by decide) (fun n a b => by rw [IntKind.wrap_u64]; omega) 8 (X * 256) c (by omega) (by omega) (by omega) c0 (by omega) (by omega)
theorem mem_tail_of {l : List Int} {n : Int} (h : n ∈ l.tail) : n ∈ l := List.mem_of_mem_tail h
theorem beV_take (l : List Int) (h : ∀ n ∈ l, (Lit.int .u8 n).wf = true) (j : Nat) (hj : j < 8) : 0 ≤ beV (l.take j) ∧ beV (l.take j) < 72057594037927936 := by
  have := beV_lt (l.take j) (fun n hn => h n (List.mem_of_mem_take hn))
  have hl : (l.take j).length ≤ 7 := by rw [List.length_take]; omega
  have h7 : (256 : Int) ^ (l.take j).length ≤ 72057594037927936 := by
    generalize (l.take j).length = n at hl
    match n, hl with
    | 0, _ => decide
    | 1, _ => decide
    | 2, _ => decide
    | 3, _ => decide
    | 4, _ => decide
    | 5, _ => decide
    | 6, _ => decide
    | 7, _ => decide
    | n + 8, h => omega
  exact ⟨this.1, Int.lt_of_lt_of_le this.2 h7⟩
/-- DecodeUint: the number, the bytes used, the error. -/
def decU (l : List Int) : Int × Int × Int :=
  if l = [] then (0, 0, 3)
  else if gI l 0 < 248 then (gI l 0, 1, 0)
  else if (l.length : Int) ≤ gI l 0 - 247 then (0, 0, 3)
  else if gI l 1 = 0 ∨ beV (l.tail.take (gI l 0 - 247).toNat) < 248 ∨ beV (l.tail.take (gI l 0 - 247).toNat) > 4611686018427387904 then (0, 0, 2)
  else (beV (l.tail.take (gI l 0 - 247).toNat), gI l 0 - 246, 0)
/-- DecodeWord. -/
def decW (l : List Int) : Int × Int × Int := if l.length < 8 then (0, 0, 3) else (beV (l.take 8), 8, 0)
theorem decU_ok {l : List Int} (hw : ∀ n ∈ l, (Lit.int .u8 n).wf = true) {n k : Int} (h : decU l = (n, k, 0)) : 0 ≤ n ∧ n ≤ 4611686018427387904 ∧ 1 ≤ k ∧ k ≤ 9 ∧ k ≤ l.length ∧ 0 < l.length := by
  have g0 := gI_u8 hw 0
  have hx := (beV_lt (l.tail.take (gI l 0 - 247).toNat) (fun n hn => hw n (List.mem_of_mem_tail (List.mem_of_mem_take hn)))).1
  unfold decU at h
  by_cases h0 : l = []
  · rw [if_pos h0] at h; simp at h
  have hl : 0 < l.length := List.length_pos_iff.2 h0
  rw [if_neg h0] at h
  by_cases h1 : gI l 0 < 248
  · rw [if_pos h1] at h; simp only [Prod.mk.injEq] at h; omega
  rw [if_neg h1] at h
  by_cases h2 : (l.length : Int) ≤ gI l 0 - 247
  · rw [if_pos h2] at h; simp at h
  rw [if_neg h2] at h
  generalize beV (l.tail.take (gI l 0 - 247).toNat) = X at h hx
  by_cases h3 : gI l 1 = 0 ∨ X < 248 ∨ X > 4611686018427387904
  · rw [if_pos h3] at h; simp at h
  rw [if_neg h3] at h
  simp only [Prod.mk.injEq] at h
  omega
theorem decU_err {l : List Int} {n k e : Int} (h : decU l = (n, k, e)) (he : e ≠ 0) : n = 0 ∧ k = 0 ∧ (e = 2 ∨ e = 3) := by
  unfold decU at h
  by_cases h0 : l = []
  · rw [if_pos h0] at h; simp only [Prod.mk.injEq] at h; omega
  rw [if_neg h0] at h
  by_cases h1 : gI l 0 < 248
  · rw [if_pos h1] at h; simp only [Prod.mk.injEq] at h; omega
  rw [if_neg h1] at h
  by_cases h2 : (l.length : Int) ≤ gI l 0 - 247
  · rw [if_pos h2] at h; simp only [Prod.mk.injEq] at h; omega
  rw [if_neg h2] at h
  generalize beV (l.tail.take (gI l 0 - 247).toNat) = X at h
  by_cases h3 : gI l 1 = 0 ∨ X < 248 ∨ X > 4611686018427387904
  · rw [if_pos h3] at h; simp only [Prod.mk.injEq] at h; omega
  rw [if_neg h3] at h
  simp only [Prod.mk.injEq] at h
  omega
/-- DecodeText, out of what DecodeUint gives. -/
def decTx (l : List Int) (r : Int × Int × Int) : ByteArray × Int × Int :=
  if r.2.2 ≠ 0 then (⟨#[]⟩, 0, r.2.2)
  else if r.1 > 65536 then (⟨#[]⟩, 0, 2)
  else if (l.length : Int) - r.2.1 < r.1 then (⟨#[]⟩, 0, 3)
  else (strOfNums ((l.drop r.2.1.toNat).take r.1.toNat), r.2.1 + r.1, 0)
def decT (l : List Int) : ByteArray × Int × Int := decTx l (decU l)
/-- Checksum: the two sums. -/
def chkS (p : Int × Int) (c : Int) : Int × Int := ((p.1 + c) % 65521, (p.2 + (p.1 + c) % 65521) % 65521)
def chkP (l : List Int) : Int × Int := l.foldl chkS (1, 0)
def chk (l : List Int) : Int := (chkP l).2 * 65536 + (chkP l).1
theorem chkP_snoc (l : List Int) (c : Int) : chkP (l ++ [c]) = chkS (chkP l) c := by simp [chkP]
theorem chkS_range (p : Int × Int) (c : Int) : 0 ≤ (chkS p c).1 ∧ (chkS p c).1 < 65521 ∧ 0 ≤ (chkS p c).2 ∧ (chkS p c).2 < 65521 := by
  simp only [chkS]; omega
theorem foldl_chk_range (l : List Int) : ∀ p : Int × Int, (0 ≤ p.1 ∧ p.1 < 65521 ∧ 0 ≤ p.2 ∧ p.2 < 65521) → 0 ≤ (l.foldl chkS p).1 ∧ (l.foldl chkS p).1 < 65521 ∧ 0 ≤ (l.foldl chkS p).2 ∧ (l.foldl chkS p).2 < 65521 := by
  induction l with
  | nil => intro p h; exact h
  | cons c l ih => intro p _; exact ih _ (chkS_range p c)
theorem chkP_range (l : List Int) : 0 ≤ (chkP l).1 ∧ (chkP l).1 < 65521 ∧ 0 ≤ (chkP l).2 ∧ (chkP l).2 < 65521 := foldl_chk_range l (1, 0) (by decide)
theorem chk_range (l : List Int) : 0 ≤ chk l ∧ chk l < 4294967296 := by
  have := chkP_range l
  unfold chk
  omega
/-- Frame. -/
def headL (tag : Int) (body : List Int) : List Int := tag :: encU body.length ++ body
def frameL (tag : Int) (body : List Int) : List Int := if body.length > 1048576 then [] else headL tag body ++ beB 4 (chk (headL tag body))
def frameE (body : List Int) : Int := if body.length > 1048576 then 11 else 0
theorem wf_u8 {n : Int} (h0 : 0 ≤ n) (h1 : n ≤ 255) : (Lit.int .u8 n).wf = true := by
  simp [Lit.wf, IntKind.min, IntKind.max, IntKind.signed, IntKind.bits]; omega
theorem wf_beB (k : Nat) (n : Int) : ∀ c ∈ beB k n, (Lit.int .u8 c).wf = true := by
  induction k with
  | zero => intro c hc; simp [beB] at hc
  | succ k ih =>
    intro c hc
    rw [beB, List.mem_cons] at hc
    rcases hc with rfl | hc
    · exact wf_u8 (by omega) (by omega)
    · exact ih c hc
theorem wf_encU (n : Int) (h : 0 ≤ n) : ∀ c ∈ encU n, (Lit.int .u8 c).wf = true := by
  intro c hc
  unfold encU at hc
  have := nB_range n
  split at hc
  · simp at hc; subst hc; exact wf_u8 (by omega) (by omega)
  · rcases List.mem_cons.1 hc with rfl | hc
    · exact wf_u8 (by omega) (by omega)
    · exact wf_beB _ _ c hc
theorem wf_headL (tag : Int) (body : List Int) (ht : (Lit.int .u8 tag).wf = true) (hb : ∀ n ∈ body, (Lit.int .u8 n).wf = true) : ∀ c ∈ headL tag body, (Lit.int .u8 c).wf = true := by
  intro c hc
  unfold headL at hc
  rcases List.mem_cons.1 hc with rfl | hc
  · exact ht
  · rcases List.mem_append.1 hc with hc | hc
    · exact wf_encU _ (by omega) c hc
    · exact hb c hc
theorem length_headL (tag : Int) (body : List Int) : (headL tag body).length = 1 + (encU body.length).length + body.length := by
  unfold headL; simp; omega
theorem beB4 {X : Int} (h0 : 0 ≤ X) (h1 : X < 4294967296) : beB 4 X = [X / 16777216, X / 65536 % 256, X / 256 % 256, X % 256] := by
  have e3 : (2 : Int) ^ (8 * 3) = 16777216 := by decide
  have e2 : (2 : Int) ^ (8 * 2) = 65536 := by decide
  have e1 : (2 : Int) ^ (8 * 1) = 256 := by decide
  have e0 : (2 : Int) ^ (8 * 0) = 1 := by decide
  simp only [beB, e3, e2, e1, e0, Int.ediv_one]
  rw [Int.emod_eq_of_lt (a := X / 16777216) (by omega) (by omega)]
/-- Unframe: the tag, the body, the bytes used, the error; out of what DecodeUint gives. -/
def unfR (l : List Int) (r : Int × Int × Int) : Int × List Int × Int × Int :=
  if r.2.2 ≠ 0 then (0, [], 0, r.2.2)
  else if r.1 > 1048576 then (0, [], 0, 2)
  else if (l.length : Int) < 1 + r.2.1 + r.1 + 4 then (0, [], 0, 3)
  else if beV ((l.drop (1 + r.2.1.toNat + r.1.toNat)).take 4) ≠ chk (l.take (1 + r.2.1.toNat + r.1.toNat)) then (0, [], 0, 4)
  else (gI l 0, (l.drop (1 + r.2.1.toNat)).take r.1.toNat, 1 + r.2.1 + r.1 + 4, 0)
def unf (l : List Int) : Int × List Int × Int × Int := if l = [] then (0, [], 0, 3) else unfR l (decU l.tail)
theorem beV32_step {X c : Int} (h0 : 0 ≤ X) (h1 : X < 16777216) (c0 : 0 ≤ c) (c1 : c ≤ 255) : bits BinOp.or IntKind.u32 (X * 256) c = X * 256 + c :=
  bits_join .u32 32 (by decide) (fun n a b => by rw [IntKind.wrap_u32]; omega) 8 (X * 256) c (by omega) (by omega) (by omega) c0 (by omega) (by omega)
theorem beV_take3 (l : List Int) (h : ∀ n ∈ l, (Lit.int .u8 n).wf = true) (j : Nat) (hj : j < 4) : 0 ≤ beV (l.take j) ∧ beV (l.take j) < 16777216 := by
  have := beV_lt (l.take j) (fun n hn => h n (List.mem_of_mem_take hn))
  have hl : (l.take j).length ≤ 3 := by rw [List.length_take]; omega
  have h7 : (256 : Int) ^ (l.take j).length ≤ 16777216 := by
    generalize (l.take j).length = n at hl
    match n, hl with
    | 0, _ => decide
    | 1, _ => decide
    | 2, _ => decide
    | 3, _ => decide
    | n + 4, h => omega
  exact ⟨this.1, Int.lt_of_lt_of_le this.2 h7⟩
end Go.Proofs.Ythlaenafkihjiaa
/- Plain laws of the encodings: a number has one encoding, and it is read back. Conditions: bytes are from 0 to 255, numbers from 0 to 2^62. -/
namespace Go.Proofs.Ythlaenafkihjiaa
open Go.RowKit Go.ChangeShapes Go.WideShapes
set_option linter.unusedVariables false
set_option linter.unusedSimpArgs false
theorem div_div256 (n : Int) (k : Nat) : n / 256 / 2 ^ (8 * k) = n / 2 ^ (8 * (k + 1)) := by
  rw [Int.ediv_ediv_of_nonneg (by omega), show 8 * (k + 1) = 8 + 8 * k from by omega, Int.pow_add]
  rfl
theorem beB_snoc (k : Nat) : ∀ n : Int, beB (k + 1) n = beB k (n / 256) ++ [n % 256] := by
  induction k with
  | zero => intro n; simp [beB]
  | succ k ih =>
    intro n
    rw [beB, ih n, beB, div_div256, List.cons_append]
theorem beB_beV : ∀ (j : Nat) (m : List Int), m.length = j → (∀ n ∈ m, (Lit.int .u8 n).wf = true) → beB j (beV m) = m := by
  intro j
  induction j with
  | zero => intro m hm _; rw [List.eq_nil_of_length_eq_zero hm]; rfl
  | succ j ih =>
    intro m hm hw
    rcases List.eq_nil_or_concat m with rfl | ⟨L, b, rfl⟩
    · simp at hm
    · have hb := bounds_u8 (hw b (by simp))
      rw [List.concat_eq_append] at *
      rw [beV_snoc, beB_snoc, show (beV L * 256 + b) / 256 = beV L from by omega, show (beV L * 256 + b) % 256 = b from by omega, ih L (by simpa using hm) (fun n hn => hw n (by simp [hn]))]
theorem beV_beB : ∀ (k : Nat) (n : Int), 0 ≤ n → n < 2 ^ (8 * k) → beV (beB k n) = n := by
  intro k
  induction k with
  | zero => intro n h0 h1; simp at h1; have : n = 0 := by omega
            subst this; rfl
  | succ k ih =>
    intro n h0 h1
    have h2 : n / 256 < 2 ^ (8 * k) := by
      rw [show 8 * (k + 1) = 8 * k + 8 from by omega, Int.pow_add] at h1
      exact Int.ediv_lt_of_lt_mul (by omega) h1
    rw [beB_snoc, beV_snoc, ih (n / 256) (by omega) h2]
    omega
theorem foldl_beV (m : List Int) : ∀ x : Int, m.foldl (fun x c => x * 256 + c) x = x * 256 ^ m.length + beV m := by
  induction m with
  | nil => intro x; simp [beV]
  | cons c m ih =>
    intro x
    have h0 : beV (c :: m) = (0 * 256 + c) * 256 ^ m.length + beV m := ih (0 * 256 + c)
    rw [List.foldl_cons, ih, h0, List.length_cons, Int.pow_succ, Int.add_mul, Int.mul_assoc, Int.mul_comm 256, Int.zero_mul, Int.zero_add]
    omega
theorem beV_cons (c : Int) (m : List Int) : beV (c :: m) = c * 256 ^ m.length + beV m := by
  have := foldl_beV m (0 * 256 + c)
  rw [beV, List.foldl_cons, this]
  simp
theorem pow256 (j : Nat) : (256 : Int) ^ j = 2 ^ (8 * j) := by
  rw [Int.pow_mul]; rfl
theorem nB_eq (n : Int) (j : Nat) (h1 : 1 ≤ j) (h8 : j ≤ 8) (hlo : j = 1 ∨ 2 ^ (8 * (j - 1)) ≤ n) (hhi : n < 2 ^ (8 * j)) : nB n = j := by
  have hj : j = 1 ∨ j = 2 ∨ j = 3 ∨ j = 4 ∨ j = 5 ∨ j = 6 ∨ j = 7 ∨ j = 8 := by omega
  unfold nB
  rcases hj with rfl | rfl | rfl | rfl | rfl | rfl | rfl | rfl <;> simp only [Nat.reduceMul, Nat.reduceSub, Int.reducePow] at hlo hhi <;> (repeat' split) <;> omega
theorem nB_hi (n : Int) (h0 : 0 ≤ n) (h1 : n ≤ 4611686018427387904) : n < 2 ^ (8 * nB n) := by
  unfold nB
  (repeat' split) <;> simp only [Nat.reduceMul, Int.reducePow] <;> omega
theorem nB_lo (n : Int) (h0 : 248 ≤ n) : 0 < n / 2 ^ (8 * (nB n - 1)) ∧ n / 2 ^ (8 * (nB n - 1)) ≤ 255 ∨ 72057594037927936 ≤ n := by
  unfold nB
  (repeat' split) <;> simp only [Nat.reduceMul, Nat.reduceSub, Int.reducePow] <;> omega
theorem gI_zero_cons (c : Int) (m : List Int) : gI (c :: m) 0 = c := rfl
theorem decU_canon {l : List Int} (hw : ∀ n ∈ l, (Lit.int .u8 n).wf = true) {n k : Int} (h : decU l = (n, k, 0)) : encU n = l.take k.toNat := by
  cases l with
  | nil => simp [decU] at h
  | cons c m =>
    have hc := bounds_u8 (hw c (by simp))
    have hwm : ∀ n ∈ m, (Lit.int .u8 n).wf = true := fun n hn => hw n (by simp [hn])
    unfold decU at h
    rw [if_neg (by simp)] at h
    rw [gI_zero_cons, List.tail_cons, List.length_cons] at h
    by_cases h1 : c < 248
    · rw [if_pos h1] at h
      simp only [Prod.mk.injEq] at h
      obtain ⟨rfl, rfl, _⟩ := h
      unfold encU
      rw [if_pos h1]
      simp
    · rw [if_neg h1] at h
      by_cases h2 : ((m.length + 1 : Nat) : Int) ≤ c - 247
      · rw [if_pos h2] at h; simp at h
      rw [if_neg h2] at h
      obtain ⟨j, hj⟩ : ∃ j : Nat, c = 248 + j := ⟨(c - 248).toNat, by omega⟩
      have e1 : (c - 247).toNat = j + 1 := by omega
      rw [e1] at h
      have hlen : (m.take (j + 1)).length = j + 1 := by rw [List.length_take]; omega
      have hX := beV_lt (m.take (j + 1)) (fun n hn => hwm n (List.mem_of_mem_take hn))
      have hB := beB_beV (j + 1) (m.take (j + 1)) hlen (fun n hn => hwm n (List.mem_of_mem_take hn))
      rw [hlen, pow256] at hX
      by_cases h3 : gI (c :: m) 1 = 0 ∨ beV (m.take (j + 1)) < 248 ∨ beV (m.take (j + 1)) > 4611686018427387904
      · rw [if_pos h3] at h; simp at h
      rw [if_neg h3] at h
      simp only [Prod.mk.injEq] at h
      obtain ⟨rfl, rfl, _⟩ := h
      have e2 : (c - 246).toNat = j + 2 := by omega
      rw [e2]
      cases m with
      | nil => simp at hlen
      | cons d m' =>
        have hd := bounds_u8 (hwm d (by simp))
        have hd0 : d ≠ 0 := fun e => h3 (.inl e)
        have hlo : j + 1 = 1 ∨ 2 ^ (8 * (j + 1 - 1)) ≤ beV ((d :: m').take (j + 1)) := by
          right
          have hl' : (m'.take j).length = j := by simpa using hlen
          have hm0 := (beV_lt (m'.take j) (fun n hn => hwm n (by simp [List.mem_of_mem_take hn]))).1
          rw [List.take_succ_cons, beV_cons, hl', pow256, Nat.add_sub_cancel]
          have hp : (0 : Int) ≤ 2 ^ (8 * j) := Int.pow_nonneg (by omega)
          have : 1 * (2 : Int) ^ (8 * j) ≤ d * 2 ^ (8 * j) := Int.mul_le_mul_of_nonneg_right (by omega) hp
          omega
        have hnB := nB_eq _ (j + 1) (by omega) (by omega) hlo hX.2
        unfold encU
        rw [if_neg (by omega), hnB, hB, show j + 2 = (j + 1) + 1 from rfl, List.take_succ_cons]
        congr 1
        omega
theorem decU_enc (n : Int) (h0 : 0 ≤ n) (h1 : n ≤ 4611686018427387904) (rest : List Int) : decU (encU n ++ rest) = (n, ((encU n).length : Int), 0) := by
  by_cases hs : n < 248
  · unfold encU
    rw [if_pos hs]
    unfold decU
    rw [if_neg (by simp), List.singleton_append, gI_zero_cons, if_pos hs]
    rfl
  · have hr := nB_range n
    have hhi := nB_hi n h0 h1
    have hv := beV_beB (nB n) n h0 hhi
    unfold encU
    rw [if_neg hs]
    unfold decU
    rw [if_neg (by simp), List.cons_append, gI_zero_cons, if_neg (by omega), if_neg (by simp [length_beB]; omega)]
    have e1 : (247 + (nB n : Int) - 247).toNat = nB n := by omega
    have e2 : ((beB (nB n) n ++ rest).take (nB n)) = beB (nB n) n := by
      rw [List.take_append_of_le_length (by rw [length_beB]; exact Nat.le_refl _), List.take_of_length_le (by rw [length_beB]; exact Nat.le_refl _)]
    rw [e1, List.tail_cons, e2, hv]
    have hg : gI ((247 + (nB n : Int)) :: (beB (nB n) n ++ rest)) 1 ≠ 0 := by
      obtain ⟨j, hj⟩ : ∃ j, nB n = j + 1 := ⟨nB n - 1, by omega⟩
      have hlo := nB_lo n (by omega)
      rw [hj] at hlo ⊢
      show n / 2 ^ (8 * j) % 256 ≠ 0
      rw [Nat.add_sub_cancel] at hlo
      rcases hlo with hlo | hlo
      · omega
      · have hj7 : j = 7 := by
          have : nB n = 8 := by
            unfold nB
            (repeat' split) <;> omega
          omega
        subst hj7
        simp only [Nat.reduceMul, Int.reducePow]
        omega
    rw [if_neg (by omega)]
    simp [length_beB]
    omega
theorem decU_cut (n : Int) (h0 : 0 ≤ n) (h1 : n ≤ 4611686018427387904) (k : Nat) (hk : k < (encU n).length) : decU ((encU n).take k) = (0, 0, 3) := by
  cases k with
  | zero => rfl
  | succ k =>
    by_cases hs : n < 248
    · unfold encU at hk
      rw [if_pos hs] at hk
      simp at hk
    · have hr := nB_range n
      unfold encU at hk ⊢
      rw [if_neg hs] at hk ⊢
      rw [List.length_cons, length_beB] at hk
      rw [List.take_succ_cons]
      unfold decU
      rw [if_neg (by simp), gI_zero_cons, if_neg (by omega), if_pos (by rw [List.length_cons, List.length_take, length_beB]; omega)]
theorem unframe_head {l : List Int} {N K : Nat} (hw : ∀ n ∈ l.tail, (Lit.int .u8 n).wf = true) (hc : encU (N : Int) = l.tail.take K) (h0 : 0 < l.length) (hl : 1 + K + N ≤ l.length) :
    headL (gI l 0) ((l.drop (1 + K)).take N) = l.take (1 + K + N) := by
  have hN : ((l.drop (1 + K)).take N).length = N := by rw [List.length_take, List.length_drop]; omega
  unfold headL
  rw [hN, hc]
  cases l with
  | nil => simp at h0
  | cons c m =>
    rw [gI_zero_cons, List.tail_cons, show 1 + K = K + 1 from by omega, List.drop_succ_cons, show K + 1 + N = (K + N) + 1 from by omega, List.take_succ_cons, List.take_add]
    rfl
theorem sum_same {l : List Int} {E : Nat} (hw : ∀ n ∈ l, (Lit.int .u8 n).wf = true) (hl : E + 4 ≤ l.length) :
    beV ((l.drop E).take 4) = chk (l.take E) ↔ (l.drop E).take 4 = beB 4 (chk (l.take E)) := by
  have hX := chk_range (l.take E)
  constructor
  · intro h
    rw [← h]
    exact (beB_beV 4 _ (by rw [List.length_take, List.length_drop]; omega) (fun n hn => hw n (List.mem_of_mem_drop (List.mem_of_mem_take hn)))).symm
  · intro h
    rw [h, beV_beB 4 _ hX.1 (by simpa using hX.2)]
theorem list_ext4 {a b : List Int} {n : Nat} (ha : a.length = n) (hb : b.length = n) (h : ∀ t, t < n → gI a t = gI b t) : a = b := by
  apply List.ext_getElem (by omega)
  intro i h1 h2
  have := h i (by omega)
  rwa [gI_eq h1, gI_eq h2] at this
end Go.Proofs.Ythlaenafkihjiaa
/- The layer wire of the program and of the reference, as plain functions. No condition. -/
namespace Go.Proofs.Ythlaenafkihjiaa
open Go.RowKit
set_option linter.unusedVariables false
set_option linter.unusedSimpArgs false
theorem ishr_j (a : Int) (j : Nat) (h : j ≤ 8) : iShr .i64 a (IntKind.i64.wrap (8 * (j : Int))) = a / 2 ^ (8 * j) := by
  rw [wr64 (by omega)]
  unfold iShr
  have e : min (8 * (j : Int)).toNat IntKind.i64.bits = 8 * j := by
    have : IntKind.i64.bits = 64 := rfl
    rw [this]; omega
  rw [e, Int.fdiv_eq_ediv_of_nonneg a (Int.le_of_lt (Int.pow_pos (by decide)))]
theorem wrapb (x : Int) : IntKind.u8.wrap x = x % 256 := by rw [IntKind.wrap_u8]
theorem f_wire_EncodeUint (n : Int) : R_wire_EncodeUint n (encL n, encE n) := by
  unfold R_wire_EncodeUint W_wire_EncodeUint
  simp only [jn, bif_or]
  by_cases hr : n < 0 ∨ n > 4611686018427387904
  · refine ⟨fun _ => by simp [encL, encE, hr], fun h => ?_⟩
    simp at h; omega
  have hb : 0 ≤ n ∧ n ≤ 4611686018427387904 := by omega
  have eL : encL n = encU n := by unfold encL; rw [if_neg hr]
  have eE : encE n = 0 := by unfold encE; rw [if_neg hr]
  rw [eL, eE]
  refine ⟨fun h => by simp at h; omega, fun _ => ⟨fun h => ?_, fun h => ?_⟩⟩
  · have h' : n < 248 := by simpa using h
    rw [wrapb, Int.emod_eq_of_lt hb.1 (by omega)]; unfold encU; rw [if_pos h']
  have h' : ¬ n < 248 := by simpa using h
  have hu : encU n = (247 + (nB n : Int)) :: beB (nB n) n := by unfold encU; rw [if_neg h']
  rw [hu]
  have hnb := nB_range n
  refine lp_up (I := fun k s => ∃ j : Nat, s = (j : Int) ∧ 1 ≤ j ∧ j ≤ nB n ∧ k = 8 - j) ?_ (k := 7) ⟨1, rfl, by omega, by omega, rfl⟩
  rintro k s ⟨j, rfl, hj1, hj2, hk⟩ X hX
  rw [ishr_j n j (by omega)]
  refine ⟨fun _ => by rw [wr64 (by omega)]; omega, fun h => ?_, fun h => ?_⟩
  · have h8 : j < 8 ∧ 0 < n / 2 ^ (8 * j) := by
      rw [bif_and] at h; simp at h; exact ⟨by omega, h.2⟩
    rw [wr64 (by omega)]
    refine hX (8 - (j + 1)) _ (by omega) ⟨j + 1, by simp, by omega, ?_, rfl⟩
    rcases Nat.lt_or_ge j (nB n) with hl | hl
    · omega
    · have := nB_out n j hb.1 hb.2 hl (by omega); omega
  · have hjn : j = nB n := by
      rcases Nat.lt_or_ge j (nB n) with hl | hl
      · have := nB_pos n j (by omega) hl
        rw [bif_and] at h; simp at h; omega
      · omega
    subst hjn
    rw [wr64 (n := 247 + (nB n : Int)) (by omega), wrapb, Int.emod_eq_of_lt (by omega) (by omega), wr64 (n := (nB n : Int) - 1) (by omega)]
    refine lp_up (I := fun k s => ∃ m : Nat, s.2 = (m : Int) - 1 ∧ m ≤ nB n ∧ k = m ∧ s.1 ++ beB m n = (247 + (nB n : Int)) :: beB (nB n) n) ?_ (k := nB n) ⟨nB n, rfl, by omega, rfl, rfl⟩
    rintro k ⟨l, i⟩ ⟨m, hm, hm1, hk, hl⟩ X hX
    simp only at hm hl ⊢
    subst hm
    have hlen := enc_len hl
    simp [length_beB] at hlen
    refine ⟨fun h => ?_, fun h => ?_⟩
    · have hm0 : 1 ≤ m := by simp at h; omega
      have em : (m : Int) - 1 = ((m - 1 : Nat) : Int) := by omega
      rw [em, ishr_j n (m - 1) (by omega), wrapb]
      refine ⟨by rw [wr64 (by omega)]; omega, by simp; omega, ?_⟩
      rw [wr64 (n := ((m - 1 : Nat) : Int) - 1) (by omega)]
      refine hX (m - 1) _ (by omega) ⟨m - 1, rfl, by omega, rfl, ?_⟩
      obtain ⟨j, rfl⟩ : ∃ j, m = j + 1 := ⟨m - 1, by omega⟩
      simpa using enc_push hl
    · have hm0 : m = 0 := by simp at h; omega
      subst hm0
      simpa [beB] using hl.symm
theorem f_ref1_Uint (n : Int) (hb : 0 ≤ n ∧ n ≤ 4611686018427387904) : R_ref1_Uint n (encU n) := by
  unfold R_ref1_Uint W_ref1_Uint
  simp only [jn, shr8, wrapb]
  refine ⟨fun h => ?_, fun h => ?_⟩
  · have h' : n < 248 := by simpa using h
    rw [Int.emod_eq_of_lt hb.1 (by omega)]; unfold encU; rw [if_pos h']
  have h' : ¬ n < 248 := by simpa using h
  have hu : encU n = (247 + (nB n : Int)) :: beB (nB n) n := by unfold encU; rw [if_neg h']
  rw [hu]
  have hnb := nB_range n
  refine lp_up (I := fun k s => ∃ j : Nat, s.1 = n / 2 ^ (8 * j) ∧ s.2 = beB j n ∧ j ≤ nB n ∧ k = 8 - j) ?_ (k := 8) ⟨0, by simp, rfl, by omega, rfl⟩
  rintro k ⟨x, l⟩ ⟨j, hx, hl, hj, hk⟩ X hX
  simp only at hx hl ⊢
  subst hx; subst hl
  refine ⟨fun h => ?_, fun h => ?_⟩
  · have h0 : 0 < n / 2 ^ (8 * j) := by simpa using h
    have hlt : j < nB n := by
      rcases Nat.lt_or_ge j (nB n) with hl | hl
      · exact hl
      · have := nB_out n j hb.1 hb.2 hl (by omega); omega
    refine ⟨by simp [length_beB]; omega, hX (8 - (j + 1)) _ (by omega) ⟨j + 1, div_step n j, rfl, by omega, rfl⟩⟩
  · have h0 : ¬ 0 < n / 2 ^ (8 * j) := by simpa using h
    have hjn : j = nB n := by
      rcases Nat.lt_or_ge j (nB n) with hl | hl
      · exact absurd (nB_pos n j (by omega) hl) h0
      · omega
    subst hjn
    rw [length_beB, wr64 (by omega), Int.emod_eq_of_lt (by omega) (by omega)]
    exact ⟨by simp [length_beB]; omega, rfl⟩
theorem u32r {x : Int} (h : 0 ≤ x ∧ x ≤ 4294967295) : IntKind.u32.wrap x = x := by rw [IntKind.wrap_u32]; omega
theorem ck_loop {l : List Int} (hl : l.length ≤ 4611686018427387904) (hw : ∀ c ∈ l, 0 ≤ c ∧ c ≤ 255) {J : Int × Int → Prop} (hJ : J (chkP l)) :
    lp (fun (X2 : Int × Int × Int → Prop) (s2 : Int × Int × Int) => (((decide ((s2.2.2) < (((l).length : Int)))) = true → ∃ (v5 : Int), ix (l) (s2.2.2) v5 ∧ X2 (((IntKind.u32.wrap ((s2.1) + (IntKind.u32.wrap (v5)))).tmod (65521)), ((IntKind.u32.wrap ((s2.2.1) + ((IntKind.u32.wrap ((s2.1) + (IntKind.u32.wrap (v5)))).tmod (65521)))).tmod (65521)), (IntKind.i64.wrap ((s2.2.2) + (1))))) ∧ ((decide ((s2.2.2) < (((l).length : Int)))) = false → J ((s2.1), (s2.2.1))))) ((1), (0), (0)) := by
  refine lp_up (I := fun k s => ∃ j : Nat, s.2.2 = (j : Int) ∧ j ≤ l.length ∧ k = l.length - j ∧ (s.1, s.2.1) = chkP (l.take j)) ?_ (k := l.length) ⟨0, rfl, by omega, by omega, rfl⟩
  rintro k ⟨a, b, i⟩ ⟨j, hj, hj1, hk, hp⟩ X hX
  simp only at hj hp ⊢
  subst hj
  refine ⟨fun h => ?_, fun h => ?_⟩
  · have hj2 : j < l.length := by simp at h; omega
    obtain ⟨x, hx, hg⟩ := ix_any (l := l) (n := (j : Int)) (by omega) (by omega)
    have hxw := hw x (List.mem_of_getElem? hg)
    have hr := chkP_range (l.take j)
    rw [← hp] at hr
    simp only at hr
    refine ⟨x, hx, ?_⟩
    have e : l.take (j + 1) = l.take j ++ [x] := by
      rw [List.take_add_one]; simp at hg; simp [hg]
    have t1 : (a + x).tmod 65521 = (a + x) % 65521 := tmod_pos (by omega)
    have t2 : (b + (a + x) % 65521).tmod 65521 = (b + (a + x) % 65521) % 65521 := tmod_pos (by omega)
    rw [u32r (x := x) (by omega), u32r (x := a + x) (by omega), t1, u32r (by omega), t2, wr64 (by omega)]
    refine hX (l.length - (j + 1)) _ (by omega) ⟨j + 1, by simp, by omega, rfl, ?_⟩
    rw [e, chkP_snoc, ← hp]; rfl
  · have hj2 : j = l.length := by simp at h; omega
    subst hj2
    rw [List.take_length] at hp
    rw [hp]; exact hJ
theorem f_wire_Checksum (l : List Int) (hl : l.length ≤ 4611686018427387904) (hw : ∀ c ∈ l, 0 ≤ c ∧ c ≤ 255) : R_wire_Checksum l (chk l) := by
  unfold R_wire_Checksum W_wire_Checksum
  simp only [jn]
  refine ck_loop (J := fun p => chk l = IntKind.u32.wrap (iShl .u32 p.2 16 + p.1)) hl hw ?_
  have hr := chkP_range l
  show chk l = IntKind.u32.wrap (IntKind.u32.wrap ((chkP l).2 * 65536) + (chkP l).1)
  rw [u32r (x := (chkP l).2 * 65536) (by omega), u32r (by omega)]; rfl
theorem f_ref1_Checksum (l : List Int) (hl : l.length ≤ 4611686018427387904) (hw : ∀ c ∈ l, 0 ≤ c ∧ c ≤ 255) : R_ref1_Checksum l (chk l) := by
  unfold R_ref1_Checksum W_ref1_Checksum
  simp only [jn]
  refine ck_loop (J := fun p => chk l = IntKind.u32.wrap (IntKind.u32.wrap (p.2 * 65536) + p.1)) hl hw ?_
  have hr := chkP_range l
  show chk l = IntKind.u32.wrap (IntKind.u32.wrap ((chkP l).2 * 65536) + (chkP l).1)
  rw [u32r (x := (chkP l).2 * 65536) (by omega), u32r (by omega)]; rfl
theorem ishr_u32 (a : Int) (j : Nat) (h : j ≤ 32) : iShr .u32 a (j : Int) = a / 2 ^ j := by
  unfold iShr
  have e : min ((j : Int)).toNat IntKind.u32.bits = j := by
    have : IntKind.u32.bits = 32 := rfl
    rw [this]; omega
  rw [e, Int.fdiv_eq_ediv_of_nonneg a (Int.le_of_lt (Int.pow_pos (by decide)))]
theorem four (X : Int) (h : 0 ≤ X ∧ X < 4294967296) : [IntKind.u8.wrap (iShr .u32 X 24), IntKind.u8.wrap (iShr .u32 X 16), IntKind.u8.wrap (iShr .u32 X 8), IntKind.u8.wrap X] = beB 4 X := by
  have e1 : iShr .u32 X 24 = X / 16777216 := ishr_u32 X 24 (by decide)
  have e2 : iShr .u32 X 16 = X / 65536 := ishr_u32 X 16 (by decide)
  have e3 : iShr .u32 X 8 = X / 256 := ishr_u32 X 8 (by decide)
  rw [beB4 h.1 h.2, e1, e2, e3, wrapb, wrapb, wrapb, wrapb, Int.emod_eq_of_lt (a := X / 16777216) (by omega) (by omega)]
theorem frm_bytes {t : Int} {l : List Int} (ht : 0 ≤ t ∧ t ≤ 255) (hw : ∀ c ∈ l, 0 ≤ c ∧ c ≤ 255) : ∀ c ∈ headL t l, 0 ≤ c ∧ c ≤ 255 := by
  intro c hc
  unfold headL at hc
  simp only [List.cons_append, List.mem_cons, List.mem_append] at hc
  rcases hc with rfl | h | h
  · exact ht
  · exact bounds_u8 (wf_encU _ (by omega) c h)
  · exact hw c h
theorem f_wire_Frame (t : Int) (l : List Int) (ht : 0 ≤ t ∧ t ≤ 255) (hw : ∀ c ∈ l, 0 ≤ c ∧ c ≤ 255) : R_wire_Frame t l (frameL t l, frameE l) := by
  unfold R_wire_Frame W_wire_Frame
  by_cases h : l.length > 1048576
  · refine ⟨fun _ => by simp [frameL, frameE, h], fun h2 => by simp at h2; omega⟩
  · refine ⟨fun h2 => by simp at h2; omega, fun _ => ?_⟩
    have hL := length_encU (l.length : Int)
    have e : encL (l.length : Int) = encU l.length := by unfold encL; rw [if_neg (by omega)]
    have hh : (([t] ++ encU (l.length : Int)) ++ l) = headL t l := by simp [headL]
    have hl := length_headL t l
    refine ⟨_, f_wire_EncodeUint _, ?_⟩
    rw [e, hh]
    refine ⟨by simp; omega, by simp; omega, _, f_wire_Checksum _ (by omega) (frm_bytes ht hw), ?_⟩
    rw [four _ (chk_range _)]
    exact ⟨by simp [length_beB]; omega, by simp [frameL, frameE, h]⟩
theorem f_ref1_Frame (t : Int) (l : List Int) (ht : 0 ≤ t ∧ t ≤ 255) (hw : ∀ c ∈ l, 0 ≤ c ∧ c ≤ 255) : R_ref1_Frame t l (frameL t l, frameE l) := by
  unfold R_ref1_Frame W_ref1_Frame
  by_cases h : l.length > 1048576
  · refine ⟨fun _ => by simp [frameL, frameE, h], fun h2 => by simp at h2; omega⟩
  · refine ⟨fun h2 => by simp at h2; omega, fun _ => ?_⟩
    have hL := length_encU (l.length : Int)
    have hh : (([t] ++ encU (l.length : Int)) ++ l) = headL t l := by simp [headL]
    have hl := length_headL t l
    refine ⟨_, f_ref1_Uint _ (by omega), ?_⟩
    rw [hh]
    refine ⟨by simp; omega, by simp; omega, _, f_ref1_Checksum _ (by omega) (frm_bytes ht hw), ?_⟩
    rw [four _ (chk_range _)]
    exact ⟨by simp [length_beB]; omega, by simp [frameL, frameE, h]⟩
end Go.Proofs.Ythlaenafkihjiaa
/- Words, texts and the writer of the program and of the reference, as plain functions. No condition. -/
namespace Go.Proofs.Ythlaenafkihjiaa
open Go.RowKit
set_option linter.unusedVariables false
set_option linter.unusedSimpArgs false
theorem ishr_u64 (a : Int) (j : Nat) (h : j ≤ 64) : iShr .u64 a (j : Int) = a / 2 ^ j := by
  unfold iShr
  have e : min ((j : Int)).toNat IntKind.u64.bits = j := by
    have : IntKind.u64.bits = 64 := rfl
    rw [this]; omega
  rw [e, Int.fdiv_eq_ediv_of_nonneg a (Int.le_of_lt (Int.pow_pos (by decide)))]
theorem f_wire_EncodeWord (a : Int) : R_wire_EncodeWord a (beB 8 a) := by
  unfold R_wire_EncodeWord W_wire_EncodeWord
  simp only [jn]
  refine lp_up (I := fun k s => ∃ m : Nat, s.2 = 8 * (m : Int) - 8 ∧ m ≤ 8 ∧ k = m ∧ s.1 ++ beB m a = beB 8 a) ?_ (k := 8) ⟨8, by decide, by omega, rfl, rfl⟩
  rintro k ⟨l, i⟩ ⟨m, hm, hm1, hk, hl⟩ X hX
  simp only at hm hl ⊢
  subst hm
  have hlen := enc_len hl
  simp [length_beB] at hlen
  refine ⟨fun h => ?_, fun h => ?_⟩
  · have hm0 : 1 ≤ m := by simp at h; omega
    obtain ⟨j, rfl⟩ : ∃ j, m = j + 1 := ⟨m - 1, by omega⟩
    have em : 8 * ((j + 1 : Nat) : Int) - 8 = ((8 * j : Nat) : Int) := by omega
    rw [em, ishr_u64 a (8 * j) (by omega), wrapb]
    refine ⟨by omega, by simp; omega, ?_⟩
    rw [wr64 (by omega)]
    exact hX j _ (by omega) ⟨j, by simp only; omega, by omega, rfl, by simpa using enc_push hl⟩
  · have hm0 : m = 0 := by simp at h; omega
    subst hm0
    simpa [beB] using hl.symm
theorem f_ref1_Word (a : Int) : R_ref1_Word a (beB 8 a) := by
  unfold R_ref1_Word W_ref1_Word
  simp only [jn]
  refine lp_up (I := fun k s => ∃ m : Nat, s.2 = (m : Int) - 1 ∧ m ≤ 8 ∧ k = m ∧ s.1 ++ beB m a = beB 8 a) ?_ (k := 8) ⟨8, by decide, by omega, rfl, rfl⟩
  rintro k ⟨l, i⟩ ⟨m, hm, hm1, hk, hl⟩ X hX
  simp only at hm hl ⊢
  subst hm
  have hlen := enc_len hl
  simp [length_beB] at hlen
  refine ⟨fun h => ?_, fun h => ?_⟩
  · have hm0 : 1 ≤ m := by simp at h; omega
    obtain ⟨j, rfl⟩ : ∃ j, m = j + 1 := ⟨m - 1, by omega⟩
    have em : ((j + 1 : Nat) : Int) - 1 = (j : Int) := by omega
    have e8 : IntKind.u64.wrap (IntKind.i64.wrap (8 * (j : Int))) = ((8 * j : Nat) : Int) := by rw [wr64 (by omega), wrapu (by omega)]; omega
    rw [em, e8, ishr_u64 a (8 * j) (by omega), wrapb]
    refine ⟨by omega, by simp; omega, ?_⟩
    rw [wr64 (by omega)]
    exact hX j _ (by omega) ⟨j, rfl, by omega, rfl, by simpa using enc_push hl⟩
  · have hm0 : m = 0 := by simp at h; omega
    subst hm0
    simpa [beB] using hl.symm
/-- What EncodeText writes. -/
def txL (s : ByteArray) : List Int := if s.size > 65536 then [] else encU s.size ++ sI s
def txE (s : ByteArray) : Int := if s.size > 65536 then 11 else 0
theorem encL_nat {n : Nat} (h : n ≤ 4611686018427387904) : encL (n : Int) = encU n ∧ encE (n : Int) = 0 := by
  unfold encL encE; rw [if_neg (by omega), if_neg (by omega)]; exact ⟨rfl, rfl⟩
theorem f_wire_EncodeText (s : ByteArray) : R_wire_EncodeText s (txL s, txE s) := by
  unfold R_wire_EncodeText W_wire_EncodeText
  by_cases h : s.size > 65536
  · refine ⟨fun _ => by simp [txL, txE, h], fun h2 => by simp at h2; omega⟩
  · refine ⟨fun h2 => by simp at h2; omega, fun _ => ⟨_, f_wire_EncodeUint _, ?_⟩⟩
    have hL := length_encU (s.size : Int)
    have hs := length_sI s
    rw [(encL_nat (n := s.size) (by omega)).1]
    exact ⟨by simp only; omega, by simp [txL, txE, h]⟩
theorem f_ref1_Text (s : ByteArray) (h : s.size ≤ 65536) : R_ref1_Text s (txL s) := by
  unfold R_ref1_Text W_ref1_Text
  have hL := length_encU (s.size : Int)
  have hs := length_sI s
  exact ⟨_, f_ref1_Uint _ (by omega), by omega, by simp [txL]; omega⟩
theorem length_encL (n : Int) : (encL n).length ≤ 9 := by
  unfold encL; split
  · simp
  · exact length_encU n
theorem length_txL (s : ByteArray) : (txL s).length ≤ 65545 := by
  unfold txL; split
  · simp
  · have hL := length_encU (s.size : Int)
    have hs := length_sI s
    simp; omega
theorem f_writer_numbers (b : List Int) (l : List Int) (hb : b.length ≤ 1000000000) (hl : l.length ≤ 100000) : R_operation_writer_numbers ⟨b⟩ l ⟨b ++ l.flatMap encL⟩ := by
  unfold R_operation_writer_numbers W_operation_writer_numbers
  refine lp_up (I := fun k s => ∃ j : Nat, s.1 = (j : Int) ∧ j ≤ l.length ∧ k = l.length - j ∧ s.2 = b ++ (l.take j).flatMap encL ∧ s.2.length ≤ b.length + 9 * j) ?_ (k := l.length) ⟨0, rfl, by omega, by omega, by simp, by simp⟩
  rintro k ⟨i, c⟩ ⟨j, hj, hj1, hk, hc, hlen⟩ X hX
  simp only at hj hc hlen ⊢
  subst hj
  refine ⟨fun h => ?_, fun h => ?_⟩
  · have hj2 : j < l.length := by simp at h; omega
    obtain ⟨x, hx, hg⟩ := ix_any (l := l) (n := (j : Int)) (by omega) (by omega)
    have hL := length_encL x
    refine ⟨x, hx, _, f_wire_EncodeUint x, by simp only; omega, ?_⟩
    rw [wr64 (by omega)]
    refine hX (l.length - (j + 1)) _ (by omega) ⟨j + 1, by simp, by omega, rfl, ?_, by simp; omega⟩
    have e : l.take (j + 1) = l.take j ++ [x] := by rw [List.take_add_one]; simp at hg; simp [hg]
    rw [e, hc]; simp
  · have hj2 : j = l.length := by simp at h; omega
    subst hj2
    rw [hc, List.take_length]
theorem f_writer_texts (b : List Int) (l : List ByteArray) (hb : b.length ≤ 100000000000) (hl : l.length ≤ 100000) : R_operation_writer_texts ⟨b⟩ l ⟨b ++ l.flatMap txL⟩ := by
  unfold R_operation_writer_texts W_operation_writer_texts
  refine lp_up (I := fun k s => ∃ j : Nat, s.1 = (j : Int) ∧ j ≤ l.length ∧ k = l.length - j ∧ s.2 = b ++ (l.take j).flatMap txL ∧ s.2.length ≤ b.length + 65545 * j) ?_ (k := l.length) ⟨0, rfl, by omega, by omega, by simp, by simp⟩
  rintro k ⟨i, c⟩ ⟨j, hj, hj1, hk, hc, hlen⟩ X hX
  simp only at hj hc hlen ⊢
  subst hj
  refine ⟨fun h => ?_, fun h => ?_⟩
  · have hj2 : j < l.length := by simp at h; omega
    obtain ⟨x, hx, hg⟩ := ix_any (l := l) (n := (j : Int)) (by omega) (by omega)
    have hL := length_txL x
    refine ⟨x, hx, _, f_wire_EncodeText x, by simp only; omega, ?_⟩
    rw [wr64 (by omega)]
    refine hX (l.length - (j + 1)) _ (by omega) ⟨j + 1, by simp, by omega, rfl, ?_, by simp; omega⟩
    have e : l.take (j + 1) = l.take j ++ [x] := by rw [List.take_add_one]; simp at hg; simp [hg]
    rw [e, hc]; simp
  · have hj2 : j = l.length := by simp at h; omega
    subst hj2
    rw [hc, List.take_length]
end Go.Proofs.Ythlaenafkihjiaa
