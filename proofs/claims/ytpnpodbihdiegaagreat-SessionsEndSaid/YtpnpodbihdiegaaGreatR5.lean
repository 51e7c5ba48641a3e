/- Parts of the proof, laid together. No condition. -/
import Derived.Test.YtpnpodbihdiegaaGreatR4
set_option linter.unusedVariables false
set_option linter.unusedSimpArgs false
namespace Go.Proofs.YtpnpodbihdiegaaGreat
open Go.RowKit
set_option maxRecDepth 100000
set_option maxHeartbeats 4000000
def KV (a0 : Qk) (a1 : Qi) (a2 : (List Int)) (a3 : Int) (Q : (Qk × Int × Int) → Prop) : Prop :=
 ∃ v2, ZQ a0 v2 ∧ ((((v2 != 0)) = true → Q ((Qk.mk 0 0 0 ([] : (List (List ByteArray))) false), 0, v2)) ∧ (((v2 != 0)) = false → ∃ v4, Z6 a1 v4 ∧ ((((v4 != 0)) = true → Q ((Qk.mk 0 0 0 ([] : (List (List ByteArray))) false), 0, v4)) ∧ (((v4 != 0)) = false → ∃ v6, Wz a3 v6 ∧ (((!(v6)) = true → Q ((Qk.mk 0 0 0 ([] : (List (List ByteArray))) false), 0, 5)) ∧ ((!(v6)) = false → ∃ v7, Jh a0.fm a1.fa7 v7 ∧ ((v7.2 = true → Q ((Qk.mk a0.fg a0.fm a0.fa9 a0.fw true), a3, 0)) ∧ (v7.2 = false → (a0.fw.length * 24 ≤ 140737488355328) ∧ ∃ v10, XZ a1.fa7 v10 ∧ jn (fun (p11 : (List (List ByteArray))) => ∃ v26, Y0 p11 a0.fg a0.fa9 a2 a3 v26 ∧ Q ((Qk.mk a0.fg v7.1 v26.2.1 v26.1 a0.fa), v26.2.2, 0)) (fun (J11 : (List (List ByteArray)) → Prop) => lp (fun (X12 : (List (List ByteArray)) × (List Int) × Int → Prop) (s12 : (List (List ByteArray)) × (List Int) × Int) => (((decide (s12.2.2 < ((s12.2.1.length : Int)))) = true → jn (fun (p14 : (List (List ByteArray)) × (List Int)) => X12 (p14.1, p14.2, (IntKind.i64.wrap (s12.2.2 + 1)))) (fun (J14 : (List (List ByteArray)) × (List Int) → Prop) => jn (fun (p15 : (List (List ByteArray)) × (List Int)) => ∃ v20, ix p15.2 s12.2.2 v20 ∧ ∃ v21, ix p15.2 s12.2.2 v21 ∧ ∃ v22, ix p15.1 v21 v22 ∧ (v22.length * 16 ≤ 140737488355328) ∧ ((v22.length + ([a1.fa1]).length) * 16 ≤ 140737488355328) ∧ ∃ v25, ix p15.1 v20 v25 ∧ J14 ((List.set p15.1 (Int.toNat v20) (((v22 ++ ([a1.fa1]))))), p15.2)) (fun (J15 : (List (List ByteArray)) × (List Int) → Prop) => lp (fun (X16 : (List (List ByteArray)) × (List Int) → Prop) (s16 : (List (List ByteArray)) × (List Int)) => ∃ v18, ix s16.2 s12.2.2 v18 ∧ (((decide (((s16.1.length : Int)) ≤ v18)) = true → ((s16.1.length + ([([] : (List ByteArray))]).length) * 24 ≤ 140737488355328) ∧ X16 ((s16.1 ++ ([([] : (List ByteArray))])), s16.2)) ∧ ((decide (((s16.1.length : Int)) ≤ v18)) = false → J15 (s16.1, s16.2)))) (s12.1, s12.2.1)))) ∧ ((decide (s12.2.2 < ((s12.2.1.length : Int)))) = false → J11 s12.1))) (a0.fw, v10, 0))))))))))
def JE (a0 : Qk) (a1 : Qi) (a2 : (List Int)) (a3 : Int) (r : Qk × Int × Int) : Prop := KV a0 a1 a2 a3 fun x => r = x
theorem Cj {a0 : Qk} {a1 : Qi} {a2 : (List Int)} {a3 : Int} {Post : (Qk × Int × Int) → Prop} (h : KV a0 a1 a2 a3 Post) : ∃ r, JE a0 a1 a2 a3 r ∧ Post r := (show GM (KV a0 a1 a2 a3) (KV a0 a1 a2 a3) from GM.ex fun v2 => GM.cond (GM.ret _) (GM.ex fun v4 => GM.cond (GM.ret _) (GM.ex fun v6 => GM.cond (GM.ret _) (GM.ex fun v7 => GM.cond (GM.ret _) (GM.and (GM.ex fun v10 => GM.join (fun p11 => GM.ex fun v26 => GM.ret _) (fun _ _ J11 => GM.loop (fun X Y Q s12 X12 h => ⟨fun hc => Yd (h.1 hc) (fun p14 h => X12 _ h) (fun _ _ J14 h => Yd h (fun p15 h => (Exists.elim h fun v20 hv20 => ⟨v20, hv20.1, (Exists.elim hv20.2 fun v21 hv21 => ⟨v21, hv21.1, (Exists.elim hv21.2 fun v22 hv22 => ⟨v22, hv22.1, ⟨hv22.2.1, ⟨hv22.2.2.1, (Exists.elim hv22.2.2.2 fun v25 hv25 => ⟨v25, hv25.1, J14 _ hv25.2⟩)⟩⟩⟩)⟩)⟩)) (fun _ _ J15 h => C1 h (fun _ _ X16 s16 h => (Exists.elim h fun v18 hv18 => ⟨v18, hv18.1, ⟨fun hc => ⟨(hv18.2.1 hc).1, X16 _ ((hv18.2.1 hc).2)⟩, fun hc => J15 _ (hv18.2.2 hc)⟩⟩)))), fun hc => h.2 hc⟩) (fun _ _ X12 s12 => GM.cond (GM.join (fun p14 => X12 _) (fun _ _ J14 => GM.join (fun p15 => GM.ex fun v20 => GM.ex fun v21 => GM.ex fun v22 => GM.and (GM.and (GM.ex fun v25 => J14 _))) (fun _ _ J15 => GM.loop (fun X Y Q s16 X16 h => (Exists.elim h fun v18 hv18 => ⟨v18, hv18.1, ⟨fun hc => ⟨(hv18.2.1 hc).1, X16 _ ((hv18.2.1 hc).2)⟩, fun hc => hv18.2.2 hc⟩⟩)) (fun _ _ X16 s16 => GM.ex fun v18 => GM.cond (GM.and (X16 _)) (J15 _))))) (J11 _))))))))) Post h
theorem Ck {a0 : Qk} {a1 : Qi} {a2 : (List Int)} {a3 : Int} {r : Qk × Int × Int} (h : JE a0 a1 a2 a3 r) : Qp Tryz.prog 109 [.agg (Z0 a0), .agg (QK a1), .c (.l 1 (List.map (eI .u8) a2)), .c (.v (.int .i64 a3))] [.agg [.p (.v (.int .i64 r.1.fg)), .p (.v (.int .i64 r.1.fm)), .p (.v (.int .i64 r.1.fa9)), .p (.l 1 (List.map (eL 1 eS) r.1.fw)), .p (.v (.bool r.1.fa))], .c (.p (.v (.int .i64 r.2.1))), .c (.p (.v (.int .i64 r.2.2)))] [] := by
  refine Qn tb Tryz.func109 Z (by kernel_rfl) Z Z (Nat.le_of_ble_eq_true Z) Z ?_;intro E;unfold JE KV at h;refine Z3 (fun Q hQ => ?_);refine tD Z ?_;refine sk fun L1 hL1 => ?_;refine tk fun L hL => ?_;refine dN 1 Z ?_;obtain ⟨v2, hv2, h⟩ := h;refine u0 (QR (Xl hv2)) ?_;refine dN 1 Z ?_;refine rt (hL _ ?_);refine tD Z ?_;refine cn h (fun h => ?_) fun h => ?_
  · refine tD Z ?_;obtain rfl := h;exact Qf (hQ _ _ ⟨.inr Z, _, _, _, (.cons (.cella Z Z Z Z Z) (.cons (.p Z) (.cons (.p Z) .nil))), (.cons (.agg (Qs (Qs (Qs (YQ (Qs .nil)))))) (.cons (.c (.p _)) (.cons (.c (.p _)) .nil))), Z, Z⟩)
  · refine Qh (hL1 _ ?_);refine sk fun L3 hL3 => ?_;refine tk fun L hL => ?_;refine dN 1 Z ?_;obtain ⟨v4, hv4, h⟩ := h;refine u0 (QR (ZF hv4)) ?_;refine dN 1 Z ?_;refine rt (hL _ ?_);refine tD Z ?_;refine cn h (fun h => ?_) fun h => ?_
    · refine tD Z ?_;obtain rfl := h;exact Qf (hQ _ _ ⟨.inr Z, _, _, _, (.cons (.cella Z Z Z Z Z) (.cons (.p Z) (.cons (.p Z) .nil))), (.cons (.agg (Qs (Qs (Qs (YQ (Qs .nil)))))) (.cons (.c (.p _)) (.cons (.c (.p _)) .nil))), Z, Z⟩)
    · refine Qh (hL3 _ ?_);refine sk fun L5 hL5 => ?_;refine tk fun L hL => ?_;refine dN 1 Z ?_;obtain ⟨v6, hv6, h⟩ := h;refine u0 (QR (Ep hv6)) ?_;refine dN 1 Z ?_;refine rt (hL _ ?_);refine cn h (fun h => ?_) fun h => ?_
      · refine tD Z ?_;obtain rfl := h;exact Qf (hQ _ _ ⟨.inr Z, _, _, _, (.cons (.cella Z Z Z Z Z) (.cons (.p Z) (.cons (.p Z) .nil))), (.cons (.agg (Qs (Qs (Qs (YQ (Qs .nil)))))) (.cons (.c (.p _)) (.cons (.c (.p _)) .nil))), Z, Z⟩)
      · refine Qh (hL5 _ ?_);refine tk fun L hL => ?_;refine dN 4 Z ?_;obtain ⟨v7, hv7, h⟩ := h;refine u0 (QR (Xq hv7)) ?_;refine dN 5 Z ?_;refine rt (hL _ ?_);refine sk fun L8 hL8 => ?_;refine tD Z ?_;refine cn h (fun h => ?_) fun h => ?_
        · refine tD Z ?_;refine tD Z ?_;obtain rfl := h;exact Qf (hQ _ _ ⟨.inr Z, _, _, _, (.cons (.cella Z Z Z Z Z) (.cons (.p Z) (.cons (.p Z) .nil))), (.cons (.agg (Qs (Qs (Qs (Qs (Qs .nil)))))) (.cons (.c (.p _)) (.cons (.c (.p _)) .nil))), Z, Z⟩)
        · refine Qh (hL8 _ ?_);refine tk fun L hL => ?_;refine dN 2 Z ?_;obtain ⟨hm9, h⟩ := h;refine ul (VP (f := (eL 1 eS)) (L := a0.fw) hm9 Z Z Z Z Z Z Z Z Z Z (Vv QJ Z Z Z Z Z)) ?_;refine dN 1 Z ?_;refine rt (hL _ ?_);refine tk fun L hL => ?_;refine dN 2 Z ?_;obtain ⟨v10, hv10, h⟩ := h;refine ul (Zt (FQ hv10)) ?_;refine dN 1 Z ?_;refine rt (hL _ ?_);refine Z2 (fun (p11 : (List (List ByteArray))) => (⟨[(2, .c (.p (.l 1 (List.map (eI .u8) a2)))), (3, .c (.p (.v (.int .i64 a3)))), (4, .c (.ptr (4, 0) 0 0)), (8, .c (.ptr (8, 0) 0 0)), (13, .c (.p (.v (.int .i64 v7.1)))), (15, .c (.sl (15, 1000) 0 (List.map (eL 1 eS) p11).length))], [((15, 1000), some (.row 1 (List.map (eL 1 eS) p11) true)), ((4, 0), some (.box (List.map CV.p (Z0 a0)))), ((8, 0), some (.box ([.p (.v (.int .i64 0)), .p (.v (.int .i64 0)), .p (.v (.int .i64 0)), .p (.v (.slice none 0 0)), .p (.v (.bool false))])))]⟩ : St)) h (fun p11 h => ?_) (fun J11 L11 hL11 h => ?_)
          · refine tk fun L hL => ?_;refine dN 7 Z ?_;obtain ⟨v26, hv26, h⟩ := h;refine ul (YB (FU hv26) Z Z (.cons (.c (.fr Z (QH Z))) (.cons (.c (.p _)) (.cons (.c (.p _)) (.cons (.c (.p _)) (.cons (.c (.p _)) .nil)))))) ?_;refine dN 7 Z ?_;refine rt (hL _ ?_);refine tD Z ?_;obtain rfl := h;exact Qf (hQ _ _ ⟨.inr Z, _, _, _, (.cons (.cella Z Z Z Z Z) (.cons (.p Z) (.cons (.p Z) .nil))), (.cons (.agg (Qs (Qs (Qs (Qs (Qs .nil)))))) (.cons (.c (.p _)) (.cons (.c (.p _)) .nil))), Z, Z⟩)
          · refine tD Z ?_;refine Qr ?_;refine Zn (fun (s12 : (List (List ByteArray)) × (List Int) × Int) => (⟨[(2, .c (.p (.l 1 (List.map (eI .u8) a2)))), (3, .c (.p (.v (.int .i64 a3)))), (4, .c (.ptr (4, 0) 0 0)), (5, .c (.ptr (5, 0) 0 0)), (8, .c (.ptr (8, 0) 0 0)), (13, .c (.p (.v (.int .i64 v7.1)))), (15, .c (.sl (15, 1000) 0 (List.map (eL 1 eS) s12.1).length)), (16, .c (.sl (16, 1000) 0 (List.map (eI .i64) s12.2.1).length)), (17, .c (.p (.v (.int .i64 s12.2.2))))], [((15, 1000), some (.row 1 (List.map (eL 1 eS) s12.1) true)), ((16, 1000), some (.row 1 (List.map (eI .i64) s12.2.1) true)), ((4, 0), some (.box (List.map CV.p (Z0 a0)))), ((5, 0), some (.box (List.map CV.p (QK a1)))), ((8, 0), some (.box ([.p (.v (.int .i64 0)), .p (.v (.int .i64 0)), .p (.v (.int .i64 0)), .p (.v (.slice none 0 0)), .p (.v (.bool false))])))]⟩ : St)) h (QC.nm [2, 3, 4, 5, 8, 13, 15, 16, 17] [((50, 0), (15, 1000)), ((53, 0), (16, 1000)), ((4, 0), (4, 0)), ((5, 0), (5, 0)), ((8, 0), (8, 0))] Z (by kernel_rfl)) (fun X12 L12 hL12 s12 h => ?_);refine sk fun L13 hL13 => ?_;refine tk fun L hL => ?_;refine dN 2 Z ?_;refine u0 ZN ?_;refine dN 1 Z ?_;refine rt (hL _ ?_);refine cn h (fun h => ?_) fun h => ?_
            · refine Qh (hL13 _ ?_);refine Z2 (fun (p14 : (List (List ByteArray)) × (List Int)) => (⟨[(2, .c (.p (.l 1 (List.map (eI .u8) a2)))), (3, .c (.p (.v (.int .i64 a3)))), (4, .c (.ptr (4, 0) 0 0)), (5, .c (.ptr (5, 0) 0 0)), (8, .c (.ptr (8, 0) 0 0)), (13, .c (.p (.v (.int .i64 v7.1)))), (15, .c (.sl (15, 1000) 0 (List.map (eL 1 eS) p14.1).length)), (16, .c (.sl (16, 1000) 0 (List.map (eI .i64) p14.2).length)), (17, .c (.p (.v (.int .i64 s12.2.2))))], [((15, 1000), some (.row 1 (List.map (eL 1 eS) p14.1) true)), ((16, 1000), some (.row 1 (List.map (eI .i64) p14.2) true)), ((4, 0), some (.box (List.map CV.p (Z0 a0)))), ((5, 0), some (.box (List.map CV.p (QK a1)))), ((8, 0), some (.box ([.p (.v (.int .i64 0)), .p (.v (.int .i64 0)), .p (.v (.int .i64 0)), .p (.v (.slice none 0 0)), .p (.v (.bool false))])))]⟩ : St)) h (fun p14 h => ?_) (fun J14 L14 hL14 h => ?_)
              · refine tE Z (hL12 _ _ h QC.fit)
              · refine Qr ?_;refine Z2 (fun (p15 : (List (List ByteArray)) × (List Int)) => (⟨[(2, .c (.p (.l 1 (List.map (eI .u8) a2)))), (3, .c (.p (.v (.int .i64 a3)))), (4, .c (.ptr (4, 0) 0 0)), (5, .c (.ptr (5, 0) 0 0)), (8, .c (.ptr (8, 0) 0 0)), (13, .c (.p (.v (.int .i64 v7.1)))), (15, .c (.sl (15, 1000) 0 (List.map (eL 1 eS) p15.1).length)), (16, .c (.sl (16, 1000) 0 (List.map (eI .i64) p15.2).length)), (17, .c (.p (.v (.int .i64 s12.2.2))))], [((15, 1000), some (.row 1 (List.map (eL 1 eS) p15.1) true)), ((16, 1000), some (.row 1 (List.map (eI .i64) p15.2) true)), ((4, 0), some (.box (List.map CV.p (Z0 a0)))), ((5, 0), some (.box (List.map CV.p (QK a1)))), ((8, 0), some (.box ([.p (.v (.int .i64 0)), .p (.v (.int .i64 0)), .p (.v (.int .i64 0)), .p (.v (.slice none 0 0)), .p (.v (.bool false))])))]⟩ : St)) h (fun p15 h => ?_) (fun J15 L15 hL15 h => ?_)
                · refine dl mixed (fun L hL => ?_);refine dN 3 Z ?_;obtain ⟨v20, hv20, h⟩ := h;refine u0 (QV hv20) ?_;refine u0 (Z5 Z Z (gm hv20.2)) ?_;refine dN 3 Z ?_;obtain ⟨v21, hv21, h⟩ := h;refine u0 (QV hv21) ?_;refine u0 (Z5 Z Z (gm hv21.2)) ?_;obtain ⟨v22, hv22, h⟩ := h;refine u0 (QV hv22) ?_;refine u0 (Z5 Z Z (gm hv22.2)) ?_;obtain ⟨hm23, h⟩ := h;refine ul (VP (f := eS) (L := v22) hm23 Z Z Z Z Z Z Z Z Z Z (Vv QJ Z Z Z Z Z)) ?_;refine dN 2 Z ?_;refine ul (QF (rows := List.map eS [a1.fa1])) ?_;obtain ⟨hm24, h⟩ := h;refine ul (QI (f := eS) (L := v22) (L' := [a1.fa1]) hm24 Z Z Z Z Z Z Z Z Z Z Z (QZ QJ Z Z Z Z Z Z)) ?_;obtain ⟨v25, hv25, h⟩ := h;refine u0 (QV hv25) ?_;refine AJ Z (ZB (b := (86, 0)) Z Z (K0 (x1 := ((v22 ++ ([a1.fa1])))) hv25.2 Z Z Z Z (.cons (.fr Z (QH Z)) .nil))) ?_;refine rd (hL _ (hL14 _ _ h ((QC.slot 15 Z (.n (n' := (List.map (eL 1 eS) (List.set p15.1 (Int.toNat v20) (((v22 ++ ([a1.fa1])))))).length) (by simp))).trans QC.fit)))
                · refine Qr ?_;refine Zn (fun (s16 : (List (List ByteArray)) × (List Int)) => (⟨[(2, .c (.p (.l 1 (List.map (eI .u8) a2)))), (3, .c (.p (.v (.int .i64 a3)))), (4, .c (.ptr (4, 0) 0 0)), (5, .c (.ptr (5, 0) 0 0)), (8, .c (.ptr (8, 0) 0 0)), (13, .c (.p (.v (.int .i64 v7.1)))), (15, .c (.sl (15, 1000) 0 (List.map (eL 1 eS) s16.1).length)), (16, .c (.sl (16, 1000) 0 (List.map (eI .i64) s16.2).length)), (17, .c (.p (.v (.int .i64 s12.2.2))))], [((15, 1000), some (.row 1 (List.map (eL 1 eS) s16.1) true)), ((16, 1000), some (.row 1 (List.map (eI .i64) s16.2) true)), ((4, 0), some (.box (List.map CV.p (Z0 a0)))), ((5, 0), some (.box (List.map CV.p (QK a1)))), ((8, 0), some (.box ([.p (.v (.int .i64 0)), .p (.v (.int .i64 0)), .p (.v (.int .i64 0)), .p (.v (.slice none 0 0)), .p (.v (.bool false))])))]⟩ : St)) h QC.fit (fun X16 L16 hL16 s16 h => ?_);refine sk fun L17 hL17 => ?_;refine tk fun L hL => ?_;refine dN 1 Z ?_;refine u0 ZN ?_;refine dN 2 Z ?_;obtain ⟨v18, hv18, h⟩ := h;refine u0 (QV hv18) ?_;refine u0 (Z5 Z Z (gm hv18.2)) ?_;refine dN 1 Z ?_;refine rt (hL _ ?_);refine cn h (fun h => ?_) fun h => ?_
                  · refine Qh (hL17 _ ?_);refine Qr ?_;refine tl fun L hL => ?_;refine dN 1 Z ?_;refine ul (Xi (rows := List.map (eL 1 eS) [([] : (List ByteArray))]) Z Z Z Z Z Z Z Z Z (.cons (.nil _) .nil)) ?_;obtain ⟨hm19, h⟩ := h;refine ul (QI (f := (eL 1 eS)) (L := s16.1) (L' := [([] : (List ByteArray))]) hm19 Z Z Z Z Z Z Z Z Z Z Z (QZ QJ Z Z Z Z Z Z)) ?_;refine dN 1 Z ?_;refine rt (hL _ (hL16 _ _ h (QC.nm [2, 3, 4, 5, 8, 13, 15, 16, 17] [((69, 0), (15, 1000)), ((16, 1000), (16, 1000)), ((4, 0), (4, 0)), ((5, 0), (5, 0)), ((8, 0), (8, 0))] Z (by kernel_rfl))))
                  · refine QP (hL15 _ _ h QC.fit)
            · refine QP (hL11 _ _ h QC.fit)
def Ve (a0 : Qd) (a1 : Qi) (a2 : (List Int)) (a3 : Int) (Q : (Qd × Int × Int) → Prop) : Prop :=
 ∃ v2, Jt a0 v2 ∧ ((((v2 != 0)) = true → Q ((Qd.mk (Q6.mk 0 0 0 0) (Qo.mk 0 0 false) (Qb.mk 0 0 0 ([] : (List Int)) false) (Qj.mk 0 0 ([] : (List Int))) (Qt.mk 0 0 ([] : (List Q1)) false) (Qe.mk 0 0 0 ([] : (List Q1)) false) (Qk.mk 0 0 0 ([] : (List (List ByteArray))) false)), 0, v2)) ∧ (((v2 != 0)) = false → ∃ v4, Z6 a1 v4 ∧ ((((v4 != 0)) = true → Q ((Qd.mk (Q6.mk 0 0 0 0) (Qo.mk 0 0 false) (Qb.mk 0 0 0 ([] : (List Int)) false) (Qj.mk 0 0 ([] : (List Int))) (Qt.mk 0 0 ([] : (List Q1)) false) (Qe.mk 0 0 0 ([] : (List Q1)) false) (Qk.mk 0 0 0 ([] : (List (List ByteArray))) false)), 0, v4)) ∧ (((v4 != 0)) = false → ∃ v6, YZ a3 v6 ∧ (((!(v6)) = true → Q ((Qd.mk (Q6.mk 0 0 0 0) (Qo.mk 0 0 false) (Qb.mk 0 0 0 ([] : (List Int)) false) (Qj.mk 0 0 ([] : (List Int))) (Qt.mk 0 0 ([] : (List Q1)) false) (Qe.mk 0 0 0 ([] : (List Q1)) false) (Qk.mk 0 0 0 ([] : (List (List ByteArray))) false)), 0, 5)) ∧ ((!(v6)) = false → jn (fun (p7 : Int × Int × Int × Bool × Int × Int × Int × (List Int) × Bool × Int × Int × (List Int) × Int × Int × (List Q1) × Bool × Int × Int × Int × (List Q1) × Bool × Int × Int × Int × (List (List ByteArray)) × Bool) => Q ((Qd.mk a0.fb (Qo.mk p7.2.1 p7.2.2.1 p7.2.2.2.1) (Qb.mk p7.2.2.2.2.1 p7.2.2.2.2.2.1 p7.2.2.2.2.2.2.1 p7.2.2.2.2.2.2.2.1 p7.2.2.2.2.2.2.2.2.1) (Qj.mk p7.2.2.2.2.2.2.2.2.2.1 p7.2.2.2.2.2.2.2.2.2.2.1 p7.2.2.2.2.2.2.2.2.2.2.2.1) (Qt.mk p7.2.2.2.2.2.2.2.2.2.2.2.2.1 p7.2.2.2.2.2.2.2.2.2.2.2.2.2.1 p7.2.2.2.2.2.2.2.2.2.2.2.2.2.2.1 p7.2.2.2.2.2.2.2.2.2.2.2.2.2.2.2.1) (Qe.mk p7.2.2.2.2.2.2.2.2.2.2.2.2.2.2.2.2.1 p7.2.2.2.2.2.2.2.2.2.2.2.2.2.2.2.2.2.1 p7.2.2.2.2.2.2.2.2.2.2.2.2.2.2.2.2.2.2.1 p7.2.2.2.2.2.2.2.2.2.2.2.2.2.2.2.2.2.2.2.1 p7.2.2.2.2.2.2.2.2.2.2.2.2.2.2.2.2.2.2.2.2.1) (Qk.mk p7.2.2.2.2.2.2.2.2.2.2.2.2.2.2.2.2.2.2.2.2.2.1 p7.2.2.2.2.2.2.2.2.2.2.2.2.2.2.2.2.2.2.2.2.2.2.1 p7.2.2.2.2.2.2.2.2.2.2.2.2.2.2.2.2.2.2.2.2.2.2.2.1 p7.2.2.2.2.2.2.2.2.2.2.2.2.2.2.2.2.2.2.2.2.2.2.2.2.1 p7.2.2.2.2.2.2.2.2.2.2.2.2.2.2.2.2.2.2.2.2.2.2.2.2.2)), p7.1, 0)) (fun (J7 : Int × Int × Int × Bool × Int × Int × Int × (List Int) × Bool × Int × Int × (List Int) × Int × Int × (List Q1) × Bool × Int × Int × Int × (List Q1) × Bool × Int × Int × Int × (List (List ByteArray)) × Bool → Prop) => ((((a0.fb.fo == 1)) = true → ∃ v8, JD a0.fx a1 v8 ∧ J7 (a3, v8.1.fm, v8.1.f8, v8.1.fa, a0.fc.fq, a0.fc.fg, a0.fc.fu, a0.fc.fa8, a0.fc.fa, a0.fy.f7, a0.fy.fu, a0.fy.f3, a0.fa4.fg, a0.fa4.fm, a0.fa4.fh, a0.fa4.fa, a0.ff.fg, a0.ff.fm, a0.ff.fb3, a0.ff.fh, a0.ff.fa, a0.fp.fg, a0.fp.fm, a0.fp.fa9, a0.fp.fw, a0.fp.fa)) ∧ (((a0.fb.fo == 1)) = false → ((((a0.fb.fo == 2)) = true → ∃ v9, KH a0.fc a1 v9 ∧ J7 (a3, a0.fx.fm, a0.fx.f8, a0.fx.fa, v9.1.fq, v9.1.fg, v9.1.fu, v9.1.fa8, v9.1.fa, a0.fy.f7, a0.fy.fu, a0.fy.f3, a0.fa4.fg, a0.fa4.fm, a0.fa4.fh, a0.fa4.fa, a0.ff.fg, a0.ff.fm, a0.ff.fb3, a0.ff.fh, a0.ff.fa, a0.fp.fg, a0.fp.fm, a0.fp.fa9, a0.fp.fw, a0.fp.fa)) ∧ (((a0.fb.fo == 2)) = false → ((((a0.fb.fo == 3)) = true → ∃ v10, Jk a0.fy a1 v10 ∧ J7 (a3, a0.fx.fm, a0.fx.f8, a0.fx.fa, a0.fc.fq, a0.fc.fg, a0.fc.fu, a0.fc.fa8, a0.fc.fa, v10.1.f7, v10.1.fu, v10.1.f3, a0.fa4.fg, a0.fa4.fm, a0.fa4.fh, a0.fa4.fa, a0.ff.fg, a0.ff.fm, a0.ff.fb3, a0.ff.fh, a0.ff.fa, a0.fp.fg, a0.fp.fm, a0.fp.fa9, a0.fp.fw, a0.fp.fa)) ∧ (((a0.fb.fo == 3)) = false → ((((a0.fb.fo == 4)) = true → ∃ v11, Vd a0.fa4 a1 v11 ∧ J7 (a3, a0.fx.fm, a0.fx.f8, a0.fx.fa, a0.fc.fq, a0.fc.fg, a0.fc.fu, a0.fc.fa8, a0.fc.fa, a0.fy.f7, a0.fy.fu, a0.fy.f3, v11.1.fg, v11.1.fm, v11.1.fh, v11.1.fa, a0.ff.fg, a0.ff.fm, a0.ff.fb3, a0.ff.fh, a0.ff.fa, a0.fp.fg, a0.fp.fm, a0.fp.fa9, a0.fp.fw, a0.fp.fa)) ∧ (((a0.fb.fo == 4)) = false → ((((a0.fb.fo == 5)) = true → ∃ v12, KI a0.ff a1 v12 ∧ J7 (a3, a0.fx.fm, a0.fx.f8, a0.fx.fa, a0.fc.fq, a0.fc.fg, a0.fc.fu, a0.fc.fa8, a0.fc.fa, a0.fy.f7, a0.fy.fu, a0.fy.f3, a0.fa4.fg, a0.fa4.fm, a0.fa4.fh, a0.fa4.fa, v12.1.fg, v12.1.fm, v12.1.fb3, v12.1.fh, v12.1.fa, a0.fp.fg, a0.fp.fm, a0.fp.fa9, a0.fp.fw, a0.fp.fa)) ∧ (((a0.fb.fo == 5)) = false → ∃ v13, JE a0.fp a1 a2 a3 v13 ∧ J7 (v13.2.1, a0.fx.fm, a0.fx.f8, a0.fx.fa, a0.fc.fq, a0.fc.fg, a0.fc.fu, a0.fc.fa8, a0.fc.fa, a0.fy.f7, a0.fy.fu, a0.fy.f3, a0.fa4.fg, a0.fa4.fm, a0.fa4.fh, a0.fa4.fa, a0.ff.fg, a0.ff.fm, a0.ff.fb3, a0.ff.fh, a0.ff.fa, v13.1.fg, v13.1.fm, v13.1.fa9, v13.1.fw, v13.1.fa))))))))))))))))))
def Xr (a0 : Qd) (a1 : Qi) (a2 : (List Int)) (a3 : Int) (r : Qd × Int × Int) : Prop := Ve a0 a1 a2 a3 fun x => r = x
theorem Fe {a0 : Qd} {a1 : Qi} {a2 : (List Int)} {a3 : Int} {Post : (Qd × Int × Int) → Prop} (h : Ve a0 a1 a2 a3 Post) : ∃ r, Xr a0 a1 a2 a3 r ∧ Post r := (show GM (Ve a0 a1 a2 a3) (Ve a0 a1 a2 a3) from GM.ex fun v2 => GM.cond (GM.ret _) (GM.ex fun v4 => GM.cond (GM.ret _) (GM.ex fun v6 => GM.cond (GM.ret _) (GM.join (fun p7 => GM.ret _) (fun _ _ J7 => GM.cond (GM.ex fun v8 => J7 _) (GM.cond (GM.ex fun v9 => J7 _) (GM.cond (GM.ex fun v10 => J7 _) (GM.cond (GM.ex fun v11 => J7 _) (GM.cond (GM.ex fun v12 => J7 _) (GM.ex fun v13 => J7 _)))))))))) Post h
theorem Ff {a0 : Qd} {a1 : Qi} {a2 : (List Int)} {a3 : Int} {r : Qd × Int × Int} (h : Xr a0 a1 a2 a3 r) : Qp Tryz.prog 67 [.agg (KZ a0), .agg (QK a1), .c (.l 1 (List.map (eI .u8) a2)), .c (.v (.int .i64 a3))] [.agg [.p (.v (.int .i64 r.1.fb.fo)), .p (.v (.int .i64 r.1.fb.fg)), .p (.v (.int .i64 r.1.fb.fq)), .p (.v (.int .u64 r.1.fb.fu)), .p (.v (.int .i64 r.1.fx.fm)), .p (.v (.int .i64 r.1.fx.f8)), .p (.v (.bool r.1.fx.fa)), .p (.v (.int .i64 r.1.fc.fq)), .p (.v (.int .i64 r.1.fc.fg)), .p (.v (.int .u64 r.1.fc.fu)), .p (.l 1 (List.map (eI .i64) r.1.fc.fa8)), .p (.v (.bool r.1.fc.fa)), .p (.v (.int .i64 r.1.fy.f7)), .p (.v (.int .u64 r.1.fy.fu)), .p (.l 1 (List.map (eI .i64) r.1.fy.f3)), .p (.v (.int .i64 r.1.fa4.fg)), .p (.v (.int .i64 r.1.fa4.fm)), .p (.l 3 (List.map Q9 r.1.fa4.fh)), .p (.v (.bool r.1.fa4.fa)), .p (.v (.int .i64 r.1.ff.fg)), .p (.v (.int .i64 r.1.ff.fm)), .p (.v (.int .i64 r.1.ff.fb3)), .p (.l 3 (List.map Q9 r.1.ff.fh)), .p (.v (.bool r.1.ff.fa)), .p (.v (.int .i64 r.1.fp.fg)), .p (.v (.int .i64 r.1.fp.fm)), .p (.v (.int .i64 r.1.fp.fa9)), .p (.l 1 (List.map (eL 1 eS) r.1.fp.fw)), .p (.v (.bool r.1.fp.fa))], .c (.p (.v (.int .i64 r.2.1))), .c (.p (.v (.int .i64 r.2.2)))] [] := by
  refine Qn tb Tryz.func67 Z (by kernel_rfl) Z Z (Nat.le_of_ble_eq_true Z) Z ?_;intro E;unfold Xr Ve at h;refine Z3 (fun Q hQ => ?_);refine tD Z ?_;refine sk fun L1 hL1 => ?_;refine tk fun L hL => ?_;refine dN 1 Z ?_;obtain ⟨v2, hv2, h⟩ := h;refine u0 (QR (UD hv2)) ?_;refine dN 1 Z ?_;refine rt (hL _ ?_);refine tD Z ?_;refine cn h (fun h => ?_) fun h => ?_
  · refine tD Z ?_;obtain rfl := h;exact Qf (hQ _ _ ⟨.inr Z, _, _, _, (.cons (.cella Z Z Z Z Z) (.cons (.p Z) (.cons (.p Z) .nil))), (.cons (.agg (Qs (Qs (Qs (Qs (Qs (Qs (Qs (Qs (Qs (Qs (YQ (Qs (Qs (Qs (YQ (Qs (Qs (YQ (Qs (Qs (Qs (Qs (YQ (Qs (Qs (Qs (Qs (YQ (Qs .nil)))))))))))))))))))))))))))))) (.cons (.c (.p _)) (.cons (.c (.p _)) .nil))), Z, Z⟩)
  · refine Qh (hL1 _ ?_);refine sk fun L3 hL3 => ?_;refine tk fun L hL => ?_;refine dN 1 Z ?_;obtain ⟨v4, hv4, h⟩ := h;refine u0 (QR (ZF hv4)) ?_;refine dN 1 Z ?_;refine rt (hL _ ?_);refine tD Z ?_;refine cn h (fun h => ?_) fun h => ?_
    · refine tD Z ?_;obtain rfl := h;exact Qf (hQ _ _ ⟨.inr Z, _, _, _, (.cons (.cella Z Z Z Z Z) (.cons (.p Z) (.cons (.p Z) .nil))), (.cons (.agg (Qs (Qs (Qs (Qs (Qs (Qs (Qs (Qs (Qs (Qs (YQ (Qs (Qs (Qs (YQ (Qs (Qs (YQ (Qs (Qs (Qs (Qs (YQ (Qs (Qs (Qs (Qs (YQ (Qs .nil)))))))))))))))))))))))))))))) (.cons (.c (.p _)) (.cons (.c (.p _)) .nil))), Z, Z⟩)
    · refine Qh (hL3 _ ?_);refine sk fun L5 hL5 => ?_;refine tk fun L hL => ?_;refine dN 1 Z ?_;obtain ⟨v6, hv6, h⟩ := h;refine u0 (QR (DD hv6)) ?_;refine dN 1 Z ?_;refine rt (hL _ ?_);refine cn h (fun h => ?_) fun h => ?_
      · refine tD Z ?_;obtain rfl := h;exact Qf (hQ _ _ ⟨.inr Z, _, _, _, (.cons (.cella Z Z Z Z Z) (.cons (.p Z) (.cons (.p Z) .nil))), (.cons (.agg (Qs (Qs (Qs (Qs (Qs (Qs (Qs (Qs (Qs (Qs (YQ (Qs (Qs (Qs (YQ (Qs (Qs (YQ (Qs (Qs (Qs (Qs (YQ (Qs (Qs (Qs (Qs (YQ (Qs .nil)))))))))))))))))))))))))))))) (.cons (.c (.p _)) (.cons (.c (.p _)) .nil))), Z, Z⟩)
      · refine Qh (hL5 _ ?_);refine tD Z ?_;refine Z2 (fun (p7 : Int × Int × Int × Bool × Int × Int × Int × (List Int) × Bool × Int × Int × (List Int) × Int × Int × (List Q1) × Bool × Int × Int × Int × (List Q1) × Bool × Int × Int × Int × (List (List ByteArray)) × Bool) => (⟨[(4, .c (.ptr (4, 0) 0 0)), (8, .c (.ptr (8, 0) 0 0)), (13, .c (.p (.v (.int .i64 p7.1))))], [((4, 0), some (.box ([.p (.v (.int .i64 a0.fb.fo)), .p (.v (.int .i64 a0.fb.fg)), .p (.v (.int .i64 a0.fb.fq)), .p (.v (.int .u64 a0.fb.fu)), .p (.v (.int .i64 p7.2.1)), .p (.v (.int .i64 p7.2.2.1)), .p (.v (.bool p7.2.2.2.1)), .p (.v (.int .i64 p7.2.2.2.2.1)), .p (.v (.int .i64 p7.2.2.2.2.2.1)), .p (.v (.int .u64 p7.2.2.2.2.2.2.1)), .p (.l 1 (List.map (eI .i64) p7.2.2.2.2.2.2.2.1)), .p (.v (.bool p7.2.2.2.2.2.2.2.2.1)), .p (.v (.int .i64 p7.2.2.2.2.2.2.2.2.2.1)), .p (.v (.int .u64 p7.2.2.2.2.2.2.2.2.2.2.1)), .p (.l 1 (List.map (eI .i64) p7.2.2.2.2.2.2.2.2.2.2.2.1)), .p (.v (.int .i64 p7.2.2.2.2.2.2.2.2.2.2.2.2.1)), .p (.v (.int .i64 p7.2.2.2.2.2.2.2.2.2.2.2.2.2.1)), .p (.l 3 (List.map Q9 p7.2.2.2.2.2.2.2.2.2.2.2.2.2.2.1)), .p (.v (.bool p7.2.2.2.2.2.2.2.2.2.2.2.2.2.2.2.1)), .p (.v (.int .i64 p7.2.2.2.2.2.2.2.2.2.2.2.2.2.2.2.2.1)), .p (.v (.int .i64 p7.2.2.2.2.2.2.2.2.2.2.2.2.2.2.2.2.2.1)), .p (.v (.int .i64 p7.2.2.2.2.2.2.2.2.2.2.2.2.2.2.2.2.2.2.1)), .p (.l 3 (List.map Q9 p7.2.2.2.2.2.2.2.2.2.2.2.2.2.2.2.2.2.2.2.1)), .p (.v (.bool p7.2.2.2.2.2.2.2.2.2.2.2.2.2.2.2.2.2.2.2.2.1)), .p (.v (.int .i64 p7.2.2.2.2.2.2.2.2.2.2.2.2.2.2.2.2.2.2.2.2.2.1)), .p (.v (.int .i64 p7.2.2.2.2.2.2.2.2.2.2.2.2.2.2.2.2.2.2.2.2.2.2.1)), .p (.v (.int .i64 p7.2.2.2.2.2.2.2.2.2.2.2.2.2.2.2.2.2.2.2.2.2.2.2.1)), .p (.l 1 (List.map (eL 1 eS) p7.2.2.2.2.2.2.2.2.2.2.2.2.2.2.2.2.2.2.2.2.2.2.2.2.1)), .p (.v (.bool p7.2.2.2.2.2.2.2.2.2.2.2.2.2.2.2.2.2.2.2.2.2.2.2.2.2))]))), ((8, 0), some (.box ([.p (.v (.int .i64 0)), .p (.v (.int .i64 0)), .p (.v (.int .i64 0)), .p (.v (.int .u64 0)), .p (.v (.int .i64 0)), .p (.v (.int .i64 0)), .p (.v (.bool false)), .p (.v (.int .i64 0)), .p (.v (.int .i64 0)), .p (.v (.int .u64 0)), .p (.v (.slice none 0 0)), .p (.v (.bool false)), .p (.v (.int .i64 0)), .p (.v (.int .u64 0)), .p (.v (.slice none 0 0)), .p (.v (.int .i64 0)), .p (.v (.int .i64 0)), .p (.v (.slice none 0 0)), .p (.v (.bool false)), .p (.v (.int .i64 0)), .p (.v (.int .i64 0)), .p (.v (.int .i64 0)), .p (.v (.slice none 0 0)), .p (.v (.bool false)), .p (.v (.int .i64 0)), .p (.v (.int .i64 0)), .p (.v (.int .i64 0)), .p (.v (.slice none 0 0)), .p (.v (.bool false))])))]⟩ : St)) h (fun p7 h => ?_) (fun J7 L7 hL7 h => ?_)
        · refine tD Z ?_;obtain rfl := h;exact Qf (hQ _ _ ⟨.inr Z, _, _, _, (.cons (.cella Z Z Z Z Z) (.cons (.p Z) (.cons (.p Z) .nil))), (.cons (.agg (Qs (Qs (Qs (Qs (Qs (Qs (Qs (Qs (Qs (Qs (Qs (Qs (Qs (Qs (Qs (Qs (Qs (Qs (Qs (Qs (Qs (Qs (Qs (Qs (Qs (Qs (Qs (Qs (Qs .nil)))))))))))))))))))))))))))))) (.cons (.c (.p _)) (.cons (.c (.p _)) .nil))), Z, Z⟩)
        · refine tD Z ?_;refine Qr ?_;refine tD Z ?_;refine cn h (fun h => ?_) fun h => ?_
          · refine tl fun L hL => ?_;refine dN 3 Z ?_;obtain ⟨v8, hv8, h⟩ := h;refine u0 (QR (Ch hv8)) ?_;refine dN 5 Z ?_;refine rt (hL _ (hL7 _ _ h QC.fit))
          · refine tD Z ?_;refine cn h (fun h => ?_) fun h => ?_
            · refine tl fun L hL => ?_;refine dN 3 Z ?_;obtain ⟨v9, hv9, h⟩ := h;refine ul (Zt (Ar hv9)) ?_;refine dN 5 Z ?_;refine rt (hL _ (hL7 _ _ h ((QC.frz (61, 3)).trans ((QC.cells (4, 0) Z (.c (.c (.c (.c (.c (.c (.c (.c (.c (.c (.cons (.fr (b := (61, 3)) Z (QH Z)) (.c (.c (.c (.c (.c (.c (.c (.c (.c (.c (.c (.c (.c (.c (.c (.c (.c (.c .nil)))))))))))))))))))))))))))))).trans QC.fit))))
            · refine tD Z ?_;refine cn h (fun h => ?_) fun h => ?_
              · refine tl fun L hL => ?_;refine dN 3 Z ?_;obtain ⟨v10, hv10, h⟩ := h;refine ul (Zt (Bn hv10)) ?_;refine dN 5 Z ?_;refine rt (hL _ (hL7 _ _ h ((QC.frz (71, 2)).trans ((QC.cells (4, 0) Z (.c (.c (.c (.c (.c (.c (.c (.c (.c (.c (.c (.c (.c (.c (.cons (.fr (b := (71, 2)) Z (QH Z)) (.c (.c (.c (.c (.c (.c (.c (.c (.c (.c (.c (.c (.c (.c .nil)))))))))))))))))))))))))))))).trans QC.fit))))
              · refine tD Z ?_;refine cn h (fun h => ?_) fun h => ?_
                · refine tl fun L hL => ?_;refine dN 3 Z ?_;obtain ⟨v11, hv11, h⟩ := h;refine ul (Zt (DG hv11)) ?_;refine dN 5 Z ?_;refine rt (hL _ (hL7 _ _ h ((QC.frz (81, 2)).trans ((QC.cells (4, 0) Z (.c (.c (.c (.c (.c (.c (.c (.c (.c (.c (.c (.c (.c (.c (.c (.c (.c (.cons (.fr (b := (81, 2)) Z (QH Z)) (.c (.c (.c (.c (.c (.c (.c (.c (.c (.c (.c .nil)))))))))))))))))))))))))))))).trans QC.fit))))
                · refine tD Z ?_;refine cn h (fun h => ?_) fun h => ?_
                  · refine tl fun L hL => ?_;refine dN 3 Z ?_;obtain ⟨v12, hv12, h⟩ := h;refine ul (Zt (Au hv12)) ?_;refine dN 5 Z ?_;refine rt (hL _ (hL7 _ _ h ((QC.frz (91, 3)).trans ((QC.cells (4, 0) Z (.c (.c (.c (.c (.c (.c (.c (.c (.c (.c (.c (.c (.c (.c (.c (.c (.c (.c (.c (.c (.c (.c (.cons (.fr (b := (91, 3)) Z (QH Z)) (.c (.c (.c (.c (.c (.c .nil)))))))))))))))))))))))))))))).trans QC.fit))))
                  · refine tl fun L hL => ?_;refine dN 5 Z ?_;obtain ⟨v13, hv13, h⟩ := h;refine u0 (QR (Ck hv13)) ?_;refine dN 7 Z ?_;refine rt (hL _ (hL7 _ _ h QC.fit))
def Yx (a0 : Q6) (a1 : (List Qi)) (a2 : (List Int)) (Q : Qd → Prop) : Prop :=
 ∃ v1, Wq a0 v1 ∧ jn (fun (p2 : Int × Int × Int × Int × Int × Int × Bool × Int × Int × Int × (List Int) × Bool × Int × Int × (List Int) × Int × Int × (List Q1) × Bool × Int × Int × Int × (List Q1) × Bool × Int × Int × Int × (List (List ByteArray)) × Bool) => Q ((Qd.mk (Q6.mk p2.1 p2.2.1 p2.2.2.1 p2.2.2.2.1) (Qo.mk p2.2.2.2.2.1 p2.2.2.2.2.2.1 p2.2.2.2.2.2.2.1) (Qb.mk p2.2.2.2.2.2.2.2.1 p2.2.2.2.2.2.2.2.2.1 p2.2.2.2.2.2.2.2.2.2.1 p2.2.2.2.2.2.2.2.2.2.2.1 p2.2.2.2.2.2.2.2.2.2.2.2.1) (Qj.mk p2.2.2.2.2.2.2.2.2.2.2.2.2.1 p2.2.2.2.2.2.2.2.2.2.2.2.2.2.1 p2.2.2.2.2.2.2.2.2.2.2.2.2.2.2.1) (Qt.mk p2.2.2.2.2.2.2.2.2.2.2.2.2.2.2.2.1 p2.2.2.2.2.2.2.2.2.2.2.2.2.2.2.2.2.1 p2.2.2.2.2.2.2.2.2.2.2.2.2.2.2.2.2.2.1 p2.2.2.2.2.2.2.2.2.2.2.2.2.2.2.2.2.2.2.1) (Qe.mk p2.2.2.2.2.2.2.2.2.2.2.2.2.2.2.2.2.2.2.2.1 p2.2.2.2.2.2.2.2.2.2.2.2.2.2.2.2.2.2.2.2.2.1 p2.2.2.2.2.2.2.2.2.2.2.2.2.2.2.2.2.2.2.2.2.2.1 p2.2.2.2.2.2.2.2.2.2.2.2.2.2.2.2.2.2.2.2.2.2.2.1 p2.2.2.2.2.2.2.2.2.2.2.2.2.2.2.2.2.2.2.2.2.2.2.2.1) (Qk.mk p2.2.2.2.2.2.2.2.2.2.2.2.2.2.2.2.2.2.2.2.2.2.2.2.2.1 p2.2.2.2.2.2.2.2.2.2.2.2.2.2.2.2.2.2.2.2.2.2.2.2.2.2.1 p2.2.2.2.2.2.2.2.2.2.2.2.2.2.2.2.2.2.2.2.2.2.2.2.2.2.2.1 p2.2.2.2.2.2.2.2.2.2.2.2.2.2.2.2.2.2.2.2.2.2.2.2.2.2.2.2.1 p2.2.2.2.2.2.2.2.2.2.2.2.2.2.2.2.2.2.2.2.2.2.2.2.2.2.2.2.2)))) (fun (J2 : Int × Int × Int × Int × Int × Int × Bool × Int × Int × Int × (List Int) × Bool × Int × Int × (List Int) × Int × Int × (List Q1) × Bool × Int × Int × Int × (List Q1) × Bool × Int × Int × Int × (List (List ByteArray)) × Bool → Prop) => lp (fun (X3 : Int × Int × Int × Int × Int × Int × Int × Int × Bool × Int × Int × Int × (List Int) × Bool × Int × Int × (List Int) × Int × Int × (List Q1) × Bool × Int × Int × Int × (List Q1) × Bool × Int × Int × Int × (List (List ByteArray)) × Bool → Prop) (s3 : Int × Int × Int × Int × Int × Int × Int × Int × Bool × Int × Int × Int × (List Int) × Bool × Int × Int × (List Int) × Int × Int × (List Q1) × Bool × Int × Int × Int × (List Q1) × Bool × Int × Int × Int × (List (List ByteArray)) × Bool) => (((decide (s3.2.1 < ((a1.length : Int)))) = true → ∃ v6, ix a1 s3.2.1 v6 ∧ ∃ v7, Xr (Qd.mk (Q6.mk s3.2.2.1 s3.2.2.2.1 s3.2.2.2.2.1 s3.2.2.2.2.2.1) (Qo.mk s3.2.2.2.2.2.2.1 s3.2.2.2.2.2.2.2.1 s3.2.2.2.2.2.2.2.2.1) (Qb.mk s3.2.2.2.2.2.2.2.2.2.1 s3.2.2.2.2.2.2.2.2.2.2.1 s3.2.2.2.2.2.2.2.2.2.2.2.1 s3.2.2.2.2.2.2.2.2.2.2.2.2.1 s3.2.2.2.2.2.2.2.2.2.2.2.2.2.1) (Qj.mk s3.2.2.2.2.2.2.2.2.2.2.2.2.2.2.1 s3.2.2.2.2.2.2.2.2.2.2.2.2.2.2.2.1 s3.2.2.2.2.2.2.2.2.2.2.2.2.2.2.2.2.1) (Qt.mk s3.2.2.2.2.2.2.2.2.2.2.2.2.2.2.2.2.2.1 s3.2.2.2.2.2.2.2.2.2.2.2.2.2.2.2.2.2.2.1 s3.2.2.2.2.2.2.2.2.2.2.2.2.2.2.2.2.2.2.2.1 s3.2.2.2.2.2.2.2.2.2.2.2.2.2.2.2.2.2.2.2.2.1) (Qe.mk s3.2.2.2.2.2.2.2.2.2.2.2.2.2.2.2.2.2.2.2.2.2.1 s3.2.2.2.2.2.2.2.2.2.2.2.2.2.2.2.2.2.2.2.2.2.2.1 s3.2.2.2.2.2.2.2.2.2.2.2.2.2.2.2.2.2.2.2.2.2.2.2.1 s3.2.2.2.2.2.2.2.2.2.2.2.2.2.2.2.2.2.2.2.2.2.2.2.2.1 s3.2.2.2.2.2.2.2.2.2.2.2.2.2.2.2.2.2.2.2.2.2.2.2.2.2.1) (Qk.mk s3.2.2.2.2.2.2.2.2.2.2.2.2.2.2.2.2.2.2.2.2.2.2.2.2.2.2.1 s3.2.2.2.2.2.2.2.2.2.2.2.2.2.2.2.2.2.2.2.2.2.2.2.2.2.2.2.1 s3.2.2.2.2.2.2.2.2.2.2.2.2.2.2.2.2.2.2.2.2.2.2.2.2.2.2.2.2.1 s3.2.2.2.2.2.2.2.2.2.2.2.2.2.2.2.2.2.2.2.2.2.2.2.2.2.2.2.2.2.1 s3.2.2.2.2.2.2.2.2.2.2.2.2.2.2.2.2.2.2.2.2.2.2.2.2.2.2.2.2.2.2)) v6 a2 s3.1 v7 ∧ X3 (v7.2.1, (IntKind.i64.wrap (s3.2.1 + 1)), v7.1.fb.fo, v7.1.fb.fg, v7.1.fb.fq, v7.1.fb.fu, v7.1.fx.fm, v7.1.fx.f8, v7.1.fx.fa, v7.1.fc.fq, v7.1.fc.fg, v7.1.fc.fu, v7.1.fc.fa8, v7.1.fc.fa, v7.1.fy.f7, v7.1.fy.fu, v7.1.fy.f3, v7.1.fa4.fg, v7.1.fa4.fm, v7.1.fa4.fh, v7.1.fa4.fa, v7.1.ff.fg, v7.1.ff.fm, v7.1.ff.fb3, v7.1.ff.fh, v7.1.ff.fa, v7.1.fp.fg, v7.1.fp.fm, v7.1.fp.fa9, v7.1.fp.fw, v7.1.fp.fa)) ∧ ((decide (s3.2.1 < ((a1.length : Int)))) = false → J2 (s3.2.2.1, s3.2.2.2.1, s3.2.2.2.2.1, s3.2.2.2.2.2.1, s3.2.2.2.2.2.2.1, s3.2.2.2.2.2.2.2.1, s3.2.2.2.2.2.2.2.2.1, s3.2.2.2.2.2.2.2.2.2.1, s3.2.2.2.2.2.2.2.2.2.2.1, s3.2.2.2.2.2.2.2.2.2.2.2.1, s3.2.2.2.2.2.2.2.2.2.2.2.2.1, s3.2.2.2.2.2.2.2.2.2.2.2.2.2.1, s3.2.2.2.2.2.2.2.2.2.2.2.2.2.2.1, s3.2.2.2.2.2.2.2.2.2.2.2.2.2.2.2.1, s3.2.2.2.2.2.2.2.2.2.2.2.2.2.2.2.2.1, s3.2.2.2.2.2.2.2.2.2.2.2.2.2.2.2.2.2.1, s3.2.2.2.2.2.2.2.2.2.2.2.2.2.2.2.2.2.2.1, s3.2.2.2.2.2.2.2.2.2.2.2.2.2.2.2.2.2.2.2.1, s3.2.2.2.2.2.2.2.2.2.2.2.2.2.2.2.2.2.2.2.2.1, s3.2.2.2.2.2.2.2.2.2.2.2.2.2.2.2.2.2.2.2.2.2.1, s3.2.2.2.2.2.2.2.2.2.2.2.2.2.2.2.2.2.2.2.2.2.2.1, s3.2.2.2.2.2.2.2.2.2.2.2.2.2.2.2.2.2.2.2.2.2.2.2.1, s3.2.2.2.2.2.2.2.2.2.2.2.2.2.2.2.2.2.2.2.2.2.2.2.2.1, s3.2.2.2.2.2.2.2.2.2.2.2.2.2.2.2.2.2.2.2.2.2.2.2.2.2.1, s3.2.2.2.2.2.2.2.2.2.2.2.2.2.2.2.2.2.2.2.2.2.2.2.2.2.2.1, s3.2.2.2.2.2.2.2.2.2.2.2.2.2.2.2.2.2.2.2.2.2.2.2.2.2.2.2.1, s3.2.2.2.2.2.2.2.2.2.2.2.2.2.2.2.2.2.2.2.2.2.2.2.2.2.2.2.2.1, s3.2.2.2.2.2.2.2.2.2.2.2.2.2.2.2.2.2.2.2.2.2.2.2.2.2.2.2.2.2.1, s3.2.2.2.2.2.2.2.2.2.2.2.2.2.2.2.2.2.2.2.2.2.2.2.2.2.2.2.2.2.2)))) (0, 0, v1.1.fb.fo, v1.1.fb.fg, v1.1.fb.fq, v1.1.fb.fu, v1.1.fx.fm, v1.1.fx.f8, v1.1.fx.fa, v1.1.fc.fq, v1.1.fc.fg, v1.1.fc.fu, v1.1.fc.fa8, v1.1.fc.fa, v1.1.fy.f7, v1.1.fy.fu, v1.1.fy.f3, v1.1.fa4.fg, v1.1.fa4.fm, v1.1.fa4.fh, v1.1.fa4.fa, v1.1.ff.fg, v1.1.ff.fm, v1.1.ff.fb3, v1.1.ff.fh, v1.1.ff.fa, v1.1.fp.fg, v1.1.fp.fm, v1.1.fp.fa9, v1.1.fp.fw, v1.1.fp.fa))
def Ws (a0 : Q6) (a1 : (List Qi)) (a2 : (List Int)) (r : Qd) : Prop := Yx a0 a1 a2 fun x => r = x
theorem Ib {a0 : Q6} {a1 : (List Qi)} {a2 : (List Int)} {Post : Qd → Prop} (h : Yx a0 a1 a2 Post) : ∃ r, Ws a0 a1 a2 r ∧ Post r := (show GM (Yx a0 a1 a2) (Yx a0 a1 a2) from GM.ex fun v1 => GM.join (fun p2 => GM.ret _) (fun _ _ J2 => GM.loop (fun X Y Q s3 X3 h => ⟨fun hc => (Exists.elim (h.1 hc) fun v6 hv6 => ⟨v6, hv6.1, (Exists.elim hv6.2 fun v7 hv7 => ⟨v7, hv7.1, X3 _ hv7.2⟩)⟩), fun hc => h.2 hc⟩) (fun _ _ X3 s3 => GM.cond (GM.ex fun v6 => GM.ex fun v7 => X3 _) (J2 _)))) Post h
theorem Ic {a0 : Q6} {a1 : (List Qi)} {a2 : (List Int)} {r : Qd} (h : Ws a0 a1 a2 r) : Qp Tryz.prog 40 [.agg (Vw a0), .c (.l 2 (List.map QK a1)), .c (.l 1 (List.map (eI .u8) a2))] [.agg [.p (.v (.int .i64 r.fb.fo)), .p (.v (.int .i64 r.fb.fg)), .p (.v (.int .i64 r.fb.fq)), .p (.v (.int .u64 r.fb.fu)), .p (.v (.int .i64 r.fx.fm)), .p (.v (.int .i64 r.fx.f8)), .p (.v (.bool r.fx.fa)), .p (.v (.int .i64 r.fc.fq)), .p (.v (.int .i64 r.fc.fg)), .p (.v (.int .u64 r.fc.fu)), .p (.l 1 (List.map (eI .i64) r.fc.fa8)), .p (.v (.bool r.fc.fa)), .p (.v (.int .i64 r.fy.f7)), .p (.v (.int .u64 r.fy.fu)), .p (.l 1 (List.map (eI .i64) r.fy.f3)), .p (.v (.int .i64 r.fa4.fg)), .p (.v (.int .i64 r.fa4.fm)), .p (.l 3 (List.map Q9 r.fa4.fh)), .p (.v (.bool r.fa4.fa)), .p (.v (.int .i64 r.ff.fg)), .p (.v (.int .i64 r.ff.fm)), .p (.v (.int .i64 r.ff.fb3)), .p (.l 3 (List.map Q9 r.ff.fh)), .p (.v (.bool r.ff.fa)), .p (.v (.int .i64 r.fp.fg)), .p (.v (.int .i64 r.fp.fm)), .p (.v (.int .i64 r.fp.fa9)), .p (.l 1 (List.map (eL 1 eS) r.fp.fw)), .p (.v (.bool r.fp.fa))]] [] := by
  refine Qn tb Tryz.func40 Z (by kernel_rfl) Z Z (Nat.le_of_ble_eq_true Z) Z ?_;intro E;unfold Ws Yx at h;refine Z3 (fun Q hQ => ?_);refine tD Z ?_;refine tk fun L hL => ?_;refine dN 1 Z ?_;obtain ⟨v1, hv1, h⟩ := h;refine ul (Zt (I6 hv1)) ?_;refine dN 6 Z ?_;refine rt (hL _ ?_);refine tD Z ?_;refine Z2 (fun (p2 : Int × Int × Int × Int × Int × Int × Bool × Int × Int × Int × (List Int) × Bool × Int × Int × (List Int) × Int × Int × (List Q1) × Bool × Int × Int × Int × (List Q1) × Bool × Int × Int × Int × (List (List ByteArray)) × Bool) => (⟨[(6, .c (.ptr (6, 0) 0 0)), (7, .c (.ptr (7, 0) 0 0))], [((6, 0), some (.box ([.p (.v (.int .i64 0)), .p (.v (.int .i64 0)), .p (.v (.int .i64 0)), .p (.v (.int .u64 0)), .p (.v (.int .i64 0)), .p (.v (.int .i64 0)), .p (.v (.bool false)), .p (.v (.int .i64 0)), .p (.v (.int .i64 0)), .p (.v (.int .u64 0)), .p (.v (.slice none 0 0)), .p (.v (.bool false)), .p (.v (.int .i64 0)), .p (.v (.int .u64 0)), .p (.v (.slice none 0 0)), .p (.v (.int .i64 0)), .p (.v (.int .i64 0)), .p (.v (.slice none 0 0)), .p (.v (.bool false)), .p (.v (.int .i64 0)), .p (.v (.int .i64 0)), .p (.v (.int .i64 0)), .p (.v (.slice none 0 0)), .p (.v (.bool false)), .p (.v (.int .i64 0)), .p (.v (.int .i64 0)), .p (.v (.int .i64 0)), .p (.v (.slice none 0 0)), .p (.v (.bool false))]))), ((7, 0), some (.box ([.p (.v (.int .i64 p2.1)), .p (.v (.int .i64 p2.2.1)), .p (.v (.int .i64 p2.2.2.1)), .p (.v (.int .u64 p2.2.2.2.1)), .p (.v (.int .i64 p2.2.2.2.2.1)), .p (.v (.int .i64 p2.2.2.2.2.2.1)), .p (.v (.bool p2.2.2.2.2.2.2.1)), .p (.v (.int .i64 p2.2.2.2.2.2.2.2.1)), .p (.v (.int .i64 p2.2.2.2.2.2.2.2.2.1)), .p (.v (.int .u64 p2.2.2.2.2.2.2.2.2.2.1)), .p (.l 1 (List.map (eI .i64) p2.2.2.2.2.2.2.2.2.2.2.1)), .p (.v (.bool p2.2.2.2.2.2.2.2.2.2.2.2.1)), .p (.v (.int .i64 p2.2.2.2.2.2.2.2.2.2.2.2.2.1)), .p (.v (.int .u64 p2.2.2.2.2.2.2.2.2.2.2.2.2.2.1)), .p (.l 1 (List.map (eI .i64) p2.2.2.2.2.2.2.2.2.2.2.2.2.2.2.1)), .p (.v (.int .i64 p2.2.2.2.2.2.2.2.2.2.2.2.2.2.2.2.1)), .p (.v (.int .i64 p2.2.2.2.2.2.2.2.2.2.2.2.2.2.2.2.2.1)), .p (.l 3 (List.map Q9 p2.2.2.2.2.2.2.2.2.2.2.2.2.2.2.2.2.2.1)), .p (.v (.bool p2.2.2.2.2.2.2.2.2.2.2.2.2.2.2.2.2.2.2.1)), .p (.v (.int .i64 p2.2.2.2.2.2.2.2.2.2.2.2.2.2.2.2.2.2.2.2.1)), .p (.v (.int .i64 p2.2.2.2.2.2.2.2.2.2.2.2.2.2.2.2.2.2.2.2.2.1)), .p (.v (.int .i64 p2.2.2.2.2.2.2.2.2.2.2.2.2.2.2.2.2.2.2.2.2.2.1)), .p (.l 3 (List.map Q9 p2.2.2.2.2.2.2.2.2.2.2.2.2.2.2.2.2.2.2.2.2.2.2.1)), .p (.v (.bool p2.2.2.2.2.2.2.2.2.2.2.2.2.2.2.2.2.2.2.2.2.2.2.2.1)), .p (.v (.int .i64 p2.2.2.2.2.2.2.2.2.2.2.2.2.2.2.2.2.2.2.2.2.2.2.2.2.1)), .p (.v (.int .i64 p2.2.2.2.2.2.2.2.2.2.2.2.2.2.2.2.2.2.2.2.2.2.2.2.2.2.1)), .p (.v (.int .i64 p2.2.2.2.2.2.2.2.2.2.2.2.2.2.2.2.2.2.2.2.2.2.2.2.2.2.2.1)), .p (.l 1 (List.map (eL 1 eS) p2.2.2.2.2.2.2.2.2.2.2.2.2.2.2.2.2.2.2.2.2.2.2.2.2.2.2.2.1)), .p (.v (.bool p2.2.2.2.2.2.2.2.2.2.2.2.2.2.2.2.2.2.2.2.2.2.2.2.2.2.2.2.2))])))]⟩ : St)) h (fun p2 h => ?_) (fun J2 L2 hL2 h => ?_)
  · refine tD Z ?_;obtain rfl := h;exact Qf (hQ _ _ ⟨.inr Z, _, _, _, (.cons (.cella Z Z Z Z Z) .nil), (.cons (.agg (Qs (Qs (Qs (Qs (Qs (Qs (Qs (Qs (Qs (Qs (Qs (Qs (Qs (Qs (Qs (Qs (Qs (Qs (Qs (Qs (Qs (Qs (Qs (Qs (Qs (Qs (Qs (Qs (Qs .nil)))))))))))))))))))))))))))))) .nil), Z, Z⟩)
  · refine tD Z ?_;refine Qr ?_;refine Zn (fun (s3 : Int × Int × Int × Int × Int × Int × Int × Int × Bool × Int × Int × Int × (List Int) × Bool × Int × Int × (List Int) × Int × Int × (List Q1) × Bool × Int × Int × Int × (List Q1) × Bool × Int × Int × Int × (List (List ByteArray)) × Bool) => (⟨[(1, .c (.p (.l 2 (List.map QK a1)))), (2, .c (.p (.l 1 (List.map (eI .u8) a2)))), (6, .c (.ptr (6, 0) 0 0)), (7, .c (.ptr (7, 0) 0 0)), (9, .c (.p (.v (.int .i64 s3.1)))), (10, .c (.p (.v (.int .i64 s3.2.1))))], [((6, 0), some (.box ([.p (.v (.int .i64 0)), .p (.v (.int .i64 0)), .p (.v (.int .i64 0)), .p (.v (.int .u64 0)), .p (.v (.int .i64 0)), .p (.v (.int .i64 0)), .p (.v (.bool false)), .p (.v (.int .i64 0)), .p (.v (.int .i64 0)), .p (.v (.int .u64 0)), .p (.v (.slice none 0 0)), .p (.v (.bool false)), .p (.v (.int .i64 0)), .p (.v (.int .u64 0)), .p (.v (.slice none 0 0)), .p (.v (.int .i64 0)), .p (.v (.int .i64 0)), .p (.v (.slice none 0 0)), .p (.v (.bool false)), .p (.v (.int .i64 0)), .p (.v (.int .i64 0)), .p (.v (.int .i64 0)), .p (.v (.slice none 0 0)), .p (.v (.bool false)), .p (.v (.int .i64 0)), .p (.v (.int .i64 0)), .p (.v (.int .i64 0)), .p (.v (.slice none 0 0)), .p (.v (.bool false))]))), ((7, 0), some (.box ([.p (.v (.int .i64 s3.2.2.1)), .p (.v (.int .i64 s3.2.2.2.1)), .p (.v (.int .i64 s3.2.2.2.2.1)), .p (.v (.int .u64 s3.2.2.2.2.2.1)), .p (.v (.int .i64 s3.2.2.2.2.2.2.1)), .p (.v (.int .i64 s3.2.2.2.2.2.2.2.1)), .p (.v (.bool s3.2.2.2.2.2.2.2.2.1)), .p (.v (.int .i64 s3.2.2.2.2.2.2.2.2.2.1)), .p (.v (.int .i64 s3.2.2.2.2.2.2.2.2.2.2.1)), .p (.v (.int .u64 s3.2.2.2.2.2.2.2.2.2.2.2.1)), .p (.l 1 (List.map (eI .i64) s3.2.2.2.2.2.2.2.2.2.2.2.2.1)), .p (.v (.bool s3.2.2.2.2.2.2.2.2.2.2.2.2.2.1)), .p (.v (.int .i64 s3.2.2.2.2.2.2.2.2.2.2.2.2.2.2.1)), .p (.v (.int .u64 s3.2.2.2.2.2.2.2.2.2.2.2.2.2.2.2.1)), .p (.l 1 (List.map (eI .i64) s3.2.2.2.2.2.2.2.2.2.2.2.2.2.2.2.2.1)), .p (.v (.int .i64 s3.2.2.2.2.2.2.2.2.2.2.2.2.2.2.2.2.2.1)), .p (.v (.int .i64 s3.2.2.2.2.2.2.2.2.2.2.2.2.2.2.2.2.2.2.1)), .p (.l 3 (List.map Q9 s3.2.2.2.2.2.2.2.2.2.2.2.2.2.2.2.2.2.2.2.1)), .p (.v (.bool s3.2.2.2.2.2.2.2.2.2.2.2.2.2.2.2.2.2.2.2.2.1)), .p (.v (.int .i64 s3.2.2.2.2.2.2.2.2.2.2.2.2.2.2.2.2.2.2.2.2.2.1)), .p (.v (.int .i64 s3.2.2.2.2.2.2.2.2.2.2.2.2.2.2.2.2.2.2.2.2.2.2.1)), .p (.v (.int .i64 s3.2.2.2.2.2.2.2.2.2.2.2.2.2.2.2.2.2.2.2.2.2.2.2.1)), .p (.l 3 (List.map Q9 s3.2.2.2.2.2.2.2.2.2.2.2.2.2.2.2.2.2.2.2.2.2.2.2.2.1)), .p (.v (.bool s3.2.2.2.2.2.2.2.2.2.2.2.2.2.2.2.2.2.2.2.2.2.2.2.2.2.1)), .p (.v (.int .i64 s3.2.2.2.2.2.2.2.2.2.2.2.2.2.2.2.2.2.2.2.2.2.2.2.2.2.2.1)), .p (.v (.int .i64 s3.2.2.2.2.2.2.2.2.2.2.2.2.2.2.2.2.2.2.2.2.2.2.2.2.2.2.2.1)), .p (.v (.int .i64 s3.2.2.2.2.2.2.2.2.2.2.2.2.2.2.2.2.2.2.2.2.2.2.2.2.2.2.2.2.1)), .p (.l 1 (List.map (eL 1 eS) s3.2.2.2.2.2.2.2.2.2.2.2.2.2.2.2.2.2.2.2.2.2.2.2.2.2.2.2.2.2.1)), .p (.v (.bool s3.2.2.2.2.2.2.2.2.2.2.2.2.2.2.2.2.2.2.2.2.2.2.2.2.2.2.2.2.2.2))])))]⟩ : St)) h ((QC.frz (13, 10)).trans ((QC.frz (13, 14)).trans ((QC.cells (7, 0) Z (.c (.c (.c (.c (.c (.c (.c (.c (.c (.c (.cons (.fr (b := (13, 10)) Z (QH Z)) (.c (.c (.c (.cons (.fr (b := (13, 14)) Z (QH Z)) (.c (.c (.c (.c (.c (.c (.c (.c (.c (.c (.c (.c (.c (.c .nil)))))))))))))))))))))))))))))).trans QC.fit))) (fun X3 L3 hL3 s3 h => ?_)
    refine sk fun L4 hL4 => ?_;refine tk fun L hL => ?_;refine dN 2 Z ?_;refine u0 QA ?_;refine dN 1 Z ?_;refine rt (hL _ ?_);refine cn h (fun h => ?_) fun h => ?_
    · refine Qh (hL4 _ ?_);refine sk fun L5 hL5 => ?_;refine Qr ?_;refine dl mixed (fun L hL => ?_);refine dN 3 Z ?_;obtain ⟨v6, hv6, h⟩ := h;refine u0 (QB hv6) ?_;refine dN 3 Z ?_;obtain ⟨v7, hv7, h⟩ := h;refine u0 (QR (Ff hv7)) ?_;refine dN 6 Z ?_;refine rd (hL _ (hL5 _ ?_));refine tE Z (hL3 _ _ h QC.fit)
    · refine QP (hL2 _ _ h QC.fit)
def VY (a0 : (List Int)) (Q : Qd → Prop) : Prop :=
 ∃ v1, VQ a0 0 v1 ∧ ∃ v2, VR v1 v2 ∧ ((0 : Int) ≤ (XW ((a0.length : Int)) 2) ∧ (XW ((a0.length : Int)) 2 : Int) ≤ (a0.length : Int)) ∧ ∃ v4, VQ a0 1 v4 ∧ ∃ v5, Vy (List.drop (Int.toNat (XW ((a0.length : Int)) 2)) a0) (Zg .i64 v4 7) v5 ∧ ∃ v6, VQ a0 9 v6 ∧ ∃ v7, JQ v6 v7 ∧ ∃ v8, Ws v2 v5 v7 v8 ∧ Q v8
def Y1 (a0 : (List Int)) (r : Qd) : Prop := VY a0 fun x => r = x
theorem FV {a0 : (List Int)} {Post : Qd → Prop} (h : VY a0 Post) : ∃ r, Y1 a0 r ∧ Post r := (show GM (VY a0) (VY a0) from GM.ex fun v1 => GM.ex fun v2 => GM.and (GM.ex fun v4 => GM.ex fun v5 => GM.ex fun v6 => GM.ex fun v7 => GM.ex fun v8 => GM.ret _)) Post h
theorem FW {a0 : (List Int)} {r : Qd} (h : Y1 a0 r) : Qp Tryz.prog 30 [.c (.l 1 (List.map (eI .i64) a0))] [.agg [.p (.v (.int .i64 r.fb.fo)), .p (.v (.int .i64 r.fb.fg)), .p (.v (.int .i64 r.fb.fq)), .p (.v (.int .u64 r.fb.fu)), .p (.v (.int .i64 r.fx.fm)), .p (.v (.int .i64 r.fx.f8)), .p (.v (.bool r.fx.fa)), .p (.v (.int .i64 r.fc.fq)), .p (.v (.int .i64 r.fc.fg)), .p (.v (.int .u64 r.fc.fu)), .p (.l 1 (List.map (eI .i64) r.fc.fa8)), .p (.v (.bool r.fc.fa)), .p (.v (.int .i64 r.fy.f7)), .p (.v (.int .u64 r.fy.fu)), .p (.l 1 (List.map (eI .i64) r.fy.f3)), .p (.v (.int .i64 r.fa4.fg)), .p (.v (.int .i64 r.fa4.fm)), .p (.l 3 (List.map Q9 r.fa4.fh)), .p (.v (.bool r.fa4.fa)), .p (.v (.int .i64 r.ff.fg)), .p (.v (.int .i64 r.ff.fm)), .p (.v (.int .i64 r.ff.fb3)), .p (.l 3 (List.map Q9 r.ff.fh)), .p (.v (.bool r.ff.fa)), .p (.v (.int .i64 r.fp.fg)), .p (.v (.int .i64 r.fp.fm)), .p (.v (.int .i64 r.fp.fa9)), .p (.l 1 (List.map (eL 1 eS) r.fp.fw)), .p (.v (.bool r.fp.fa))]] [] := by
  refine Qn tb Tryz.func30 Z (by kernel_rfl) Z Z (Nat.le_of_ble_eq_true Z) Z ?_;intro E;unfold Y1 VY at h;refine Z3 (fun Q hQ => ?_);refine tD Z ?_;refine dk mixed (fun L hL => ?_);refine dN 1 Z ?_;obtain ⟨v1, hv1, h⟩ := h;refine u0 (QR (WM hv1)) ?_;obtain ⟨v2, hv2, h⟩ := h;refine u0 (QR (BD hv2)) ?_;refine dN 2 Z ?_;refine u0 QA ?_;refine u0 (CJ (n := XW ((a0.length : Int)) 2)) ?_;obtain ⟨hm3, h⟩ := h;refine u0 (BZ hm3) ?_;refine dN 1 Z ?_;obtain ⟨v4, hv4, h⟩ := h;refine u0 (QR (WM hv4)) ?_;refine dN 1 Z ?_;obtain ⟨v5, hv5, h⟩ := h;refine ul (Zt (CW hv5)) ?_;refine dN 1 Z ?_;obtain ⟨v6, hv6, h⟩ := h;refine u0 (QR (WM hv6)) ?_;obtain ⟨v7, hv7, h⟩ := h;refine u0 (QR (WL hv7)) ?_;obtain ⟨v8, hv8, h⟩ := h;refine ul (YB (Ic hv8) Z Z (.cons (.agg (.pp (.pp (.pp (.pp .nil))))) (.cons (.c (.fr Z (QH Z))) (.cons (.c (.p _)) .nil)))) ?_;refine dN 1 Z ?_;refine rd (hL _ ?_);obtain rfl := h;exact Qf (hQ _ _ ⟨.inr Z, _, _, _, (.cons (.cella Z Z Z Z Z) .nil), (.cons (.agg (Qs (Qs (Qs (Qs (Qs (Qs (Qs (Qs (Qs (Qs (Qs (Qs (Qs (Qs (Qs (Qs (Qs (Qs (Qs (Qs (Qs (Qs (Qs (Qs (Qs (Qs (Qs (Qs (Qs .nil)))))))))))))))))))))))))))))) .nil), Z, Z⟩)
def W3 (a0 : (List Int)) (a1 : Int) (Q : Qq → Prop) : Prop :=
 ∃ v1, VQ a0 a1 v1 ∧ ∃ v2, VQ a0 (IntKind.i64.wrap (a1 + 7)) v2 ∧ jn (fun (p4 : Bool) => ((p4 = true → ∃ v5, Zu (QT .i64 v1 5) v5 ∧ ∃ v6, VR v2 v6 ∧ Q ((Qq.mk 1 v5 ByteArray.empty ([] : (List ByteArray)) v6 ([] : (List Qi)) ([] : (List Int)) 0 0 0 0 0 0 (Qu.mk 0 ByteArray.empty 0 0 0) ([] : (List Int))))) ∧ (p4 = false → (((((v1.tmod 20) == 2)) = true → ∃ v7, Zu (QT .i64 v1 5) v7 ∧ Q ((Qq.mk 2 v7 ByteArray.empty ([] : (List ByteArray)) (Q6.mk 0 0 0 0) ([] : (List Qi)) ([] : (List Int)) 0 0 0 0 0 0 (Qu.mk 0 ByteArray.empty 0 0 0) ([] : (List Int))))) ∧ ((((v1.tmod 20) == 2)) = false → (((((v1.tmod 20) == 3)) = true → ∃ v8, Zu (QT .i64 v1 5) v8 ∧ ∃ v9, Zu (QT .i64 v1 7) v9 ∧ Q ((Qq.mk 3 v8 v9 ([] : (List ByteArray)) (Q6.mk 0 0 0 0) ([] : (List Qi)) ([] : (List Int)) 0 0 0 0 0 0 (Qu.mk 0 ByteArray.empty 0 0 0) ([] : (List Int))))) ∧ ((((v1.tmod 20) == 3)) = false → (((((v1.tmod 20) == 4)) = true → Q ((Qq.mk 4 ByteArray.empty ByteArray.empty ([] : (List ByteArray)) (Q6.mk 0 0 0 0) ([] : (List Qi)) ([] : (List Int)) 0 0 0 0 0 0 (Qu.mk 0 ByteArray.empty 0 0 0) ([] : (List Int))))) ∧ ((((v1.tmod 20) == 4)) = false → (((((v1.tmod 20) == 5)) = true → ∃ v10, Zu (QT .i64 v1 5) v10 ∧ ∃ v11, XC v2 v11 ∧ Q ((Qq.mk 5 v10 ByteArray.empty ([] : (List ByteArray)) (Q6.mk 0 0 0 0) ([] : (List Qi)) ([] : (List Int)) 0 0 0 0 0 0 v11 ([] : (List Int))))) ∧ ((((v1.tmod 20) == 5)) = false → jn (fun (p12 : Bool) => ((p12 = true → ∃ v13, Zu (QT .i64 v1 5) v13 ∧ ((0 : Int) ≤ (XW ((a0.length : Int)) (a1.tmod 5)) ∧ (XW ((a0.length : Int)) (a1.tmod 5) : Int) ≤ (a0.length : Int)) ∧ ∃ v15, Vy (List.drop (Int.toNat (XW ((a0.length : Int)) (a1.tmod 5))) a0) (IntKind.i64.wrap (1 + (Zg .i64 (QT .i64 v1 7) 7))) v15 ∧ ∃ v16, JQ v2 v16 ∧ Q ((Qq.mk 6 v13 ByteArray.empty ([] : (List ByteArray)) (Q6.mk 0 0 0 0) v15 v16 0 0 0 0 0 0 (Qu.mk 0 ByteArray.empty 0 0 0) ([] : (List Int))))) ∧ (p12 = false → (((((v1.tmod 20) == 9)) = true → ∃ v17, Zu (QT .i64 v1 5) v17 ∧ ∃ v18, Zu (QT .i64 v1 7) v18 ∧ ∃ v19, JQ v2 v19 ∧ Q ((Qq.mk 7 v17 v18 ([] : (List ByteArray)) (Q6.mk 0 0 0 0) ([] : (List Qi)) v19 0 0 0 0 0 0 (Qu.mk 0 ByteArray.empty 0 0 0) ([] : (List Int))))) ∧ ((((v1.tmod 20) == 9)) = false → (((((v1.tmod 20) == 10)) = true → ∃ v20, Zu (QT .i64 v1 5) v20 ∧ ∃ v21, Zu (QT .i64 v1 7) v21 ∧ ∃ v22, JQ v2 v22 ∧ Q ((Qq.mk 8 v20 v21 ([] : (List ByteArray)) (Q6.mk 0 0 0 0) ([] : (List Qi)) v22 (IntKind.i64.wrap (1 + (Zg .i64 v2 7))) (IntKind.i64.wrap (1 + (Zg .i64 (QT .i64 v2 3) 7))) 0 0 0 0 (Qu.mk 0 ByteArray.empty 0 0 0) ([] : (List Int))))) ∧ ((((v1.tmod 20) == 10)) = false → jn (fun (p23 : Bool) => ((p23 = true → ∃ v24, Zu (QT .i64 v1 5) v24 ∧ ∃ v25, Zu (QT .i64 v1 7) v25 ∧ ∃ v26, Zu (QT .i64 v1 8) v26 ∧ ((0 : Int) ≤ (IntKind.i64.wrap ((IntKind.i64.wrap (1 + (Zg .i64 (QT .i64 v1 10) 1))) + (Zg .i64 (QT .i64 v1 11) 1))) ∧ (IntKind.i64.wrap ((IntKind.i64.wrap (1 + (Zg .i64 (QT .i64 v1 10) 1))) + (Zg .i64 (QT .i64 v1 11) 1)) : Int) ≤ (((List.map eS ([v24, v25, v26])).length : Nat) : Int)) ∧ Q ((Qq.mk 9 ByteArray.empty ByteArray.empty (List.take (Int.toNat (IntKind.i64.wrap ((IntKind.i64.wrap (1 + (Zg .i64 (QT .i64 v1 10) 1))) + (Zg .i64 (QT .i64 v1 11) 1)))) ([v24, v25, v26])) (Q6.mk 0 0 0 0) ([] : (List Qi)) ([] : (List Int)) 0 0 0 0 0 0 (Qu.mk 0 ByteArray.empty 0 0 0) ([] : (List Int))))) ∧ (p23 = false → (((((v1.tmod 20) == 13)) = true → ∃ v28, XC v2 v28 ∧ Q ((Qq.mk 10 ByteArray.empty ByteArray.empty ([] : (List ByteArray)) (Q6.mk 0 0 0 0) ([] : (List Qi)) ([] : (List Int)) 0 0 (Zg .i64 (QT .i64 v1 5) 1) (Zg .i64 (QT .i64 v1 6) 1) 0 0 v28 ([] : (List Int))))) ∧ ((((v1.tmod 20) == 13)) = false → (((((v1.tmod 20) == 14)) = true → Q ((Qq.mk 11 ByteArray.empty ByteArray.empty ([] : (List ByteArray)) (Q6.mk 0 0 0 0) ([] : (List Qi)) ([] : (List Int)) 0 0 (Zg .i64 (QT .i64 v1 5) 1) 0 0 0 (Qu.mk 0 ByteArray.empty 0 0 0) ([] : (List Int))))) ∧ ((((v1.tmod 20) == 14)) = false → (((((v1.tmod 20) == 15)) = true → Q ((Qq.mk 12 ByteArray.empty ByteArray.empty ([] : (List ByteArray)) (Q6.mk 0 0 0 0) ([] : (List Qi)) ([] : (List Int)) 0 0 (Zg .i64 (QT .i64 v1 5) 1) (Zg .i64 (QT .i64 v1 6) 1) 0 0 (Qu.mk 0 ByteArray.empty 0 0 0) ([] : (List Int))))) ∧ ((((v1.tmod 20) == 15)) = false → (((((v1.tmod 20) == 16)) = true → Q ((Qq.mk 13 ByteArray.empty ByteArray.empty ([] : (List ByteArray)) (Q6.mk 0 0 0 0) ([] : (List Qi)) ([] : (List Int)) 0 0 0 0 (Zg .i64 (QT .i64 v1 5) 1) (Zg .i64 (QT .i64 v1 6) 3) (Qu.mk 0 ByteArray.empty 0 0 0) ([] : (List Int))))) ∧ ((((v1.tmod 20) == 16)) = false → (((((v1.tmod 20) == 17)) = true → Q ((Qq.mk 14 ByteArray.empty ByteArray.empty ([] : (List ByteArray)) (Q6.mk 0 0 0 0) ([] : (List Qi)) ([] : (List Int)) 0 0 0 0 (Zg .i64 (QT .i64 v1 5) 1) 0 (Qu.mk 0 ByteArray.empty 0 0 0) ([] : (List Int))))) ∧ ((((v1.tmod 20) == 17)) = false → (((((v1.tmod 20) == 18)) = true → (((((Zg .i64 (QT .i64 v1 5) 1) == 1)) = true → Q ((Qq.mk 15 ByteArray.empty ByteArray.empty ([] : (List ByteArray)) (Q6.mk 0 0 0 0) ([] : (List Qi)) ([] : (List Int)) 0 0 (Zg .i64 (QT .i64 v1 6) 1) (Zg .i64 (QT .i64 v1 7) 1) 0 0 (Qu.mk 0 ByteArray.empty 0 0 0) ([] : (List Int))))) ∧ ((((Zg .i64 (QT .i64 v1 5) 1) == 1)) = false → ∃ v30, Zu (QT .i64 v1 6) v30 ∧ ((0 : Int) ≤ (XW ((a0.length : Int)) (a1.tmod 7)) ∧ (XW ((a0.length : Int)) (a1.tmod 7) : Int) ≤ (a0.length : Int)) ∧ ∃ v32, Y1 (List.drop (Int.toNat (XW ((a0.length : Int)) (a1.tmod 7))) a0) v32 ∧ ∃ v33, Wc v32 v33 ∧ Q ((Qq.mk 16 v30 ByteArray.empty ([] : (List ByteArray)) (Q6.mk 0 0 0 0) ([] : (List Qi)) ([] : (List Int)) 0 0 0 0 0 0 (Qu.mk 0 ByteArray.empty 0 0 0) v33))))) ∧ ((((v1.tmod 20) == 18)) = false → Q ((Qq.mk 17 ByteArray.empty ByteArray.empty ([] : (List ByteArray)) (Q6.mk 0 0 0 0) ([] : (List Qi)) ([] : (List Int)) 0 0 0 0 0 0 (Qu.mk 0 ByteArray.empty 0 0 0) ([] : (List Int))))))))))))))))))) (fun (J23 : Bool → Prop) => (((((v1.tmod 20) == 11)) = true → J23 ((((v1.tmod 20) == 11)))) ∧ ((((v1.tmod 20) == 11)) = false → J23 ((((v1.tmod 20) == 12))))))))))))) (fun (J12 : Bool → Prop) => (((((v1.tmod 20) == 6)) = true → J12 ((((v1.tmod 20) == 6)))) ∧ ((((v1.tmod 20) == 6)) = false → (((((v1.tmod 20) == 7)) = true → J12 ((((v1.tmod 20) == 7)))) ∧ ((((v1.tmod 20) == 7)) = false → J12 ((((v1.tmod 20) == 8))))))))))))))))))) (fun (J4 : Bool → Prop) => (((((v1.tmod 20) == 0)) = true → J4 ((((v1.tmod 20) == 0)))) ∧ ((((v1.tmod 20) == 0)) = false → J4 ((((v1.tmod 20) == 1))))))
def UF (a0 : (List Int)) (a1 : Int) (r : Qq) : Prop := W3 a0 a1 fun x => r = x
theorem Mg {a0 : (List Int)} {a1 : Int} {Post : Qq → Prop} (h : W3 a0 a1 Post) : ∃ r, UF a0 a1 r ∧ Post r := (show GM (W3 a0 a1) (W3 a0 a1) from GM.ex fun v1 => GM.ex fun v2 => GM.join (fun p4 => GM.cond (GM.ex fun v5 => GM.ex fun v6 => GM.ret _) (GM.cond (GM.ex fun v7 => GM.ret _) (GM.cond (GM.ex fun v8 => GM.ex fun v9 => GM.ret _) (GM.cond (GM.ret _) (GM.cond (GM.ex fun v10 => GM.ex fun v11 => GM.ret _) (GM.join (fun p12 => GM.cond (GM.ex fun v13 => GM.and (GM.ex fun v15 => GM.ex fun v16 => GM.ret _)) (GM.cond (GM.ex fun v17 => GM.ex fun v18 => GM.ex fun v19 => GM.ret _) (GM.cond (GM.ex fun v20 => GM.ex fun v21 => GM.ex fun v22 => GM.ret _) (GM.join (fun p23 => GM.cond (GM.ex fun v24 => GM.ex fun v25 => GM.ex fun v26 => GM.and (GM.ret _)) (GM.cond (GM.ex fun v28 => GM.ret _) (GM.cond (GM.ret _) (GM.cond (GM.ret _) (GM.cond (GM.ret _) (GM.cond (GM.ret _) (GM.cond (GM.cond (GM.ret _) (GM.ex fun v30 => GM.and (GM.ex fun v32 => GM.ex fun v33 => GM.ret _))) (GM.ret _)))))))) (fun _ _ J23 => GM.cond (J23 _) (J23 _)))))) (fun _ _ J12 => GM.cond (J12 _) (GM.cond (J12 _) (J12 _))))))))) (fun _ _ J4 => GM.cond (J4 _) (J4 _))) Post h
theorem Mh {a0 : (List Int)} {a1 : Int} {r : Qq} (h : UF a0 a1 r) : Qp Tryz.prog 8 [.c (.l 1 (List.map (eI .i64) a0)), .c (.v (.int .i64 a1))] [.agg [.p (.v (.int .i64 r.fo)), .p (.v (.string r.fb7)), .p (.v (.string r.fj)), .p (.l 1 (List.map eS r.fa2)), .p (.v (.int .i64 r.fb.fo)), .p (.v (.int .i64 r.fb.fg)), .p (.v (.int .i64 r.fb.fq)), .p (.v (.int .u64 r.fb.fu)), .own 2 (List.map QK r.f8), .p (.l 1 (List.map (eI .u8) r.fb5)), .p (.v (.int .i64 r.fa3)), .p (.v (.int .i64 r.fb0)), .p (.v (.int .i64 r.fa5)), .p (.v (.int .i64 r.fb6)), .p (.v (.int .i64 r.fa6)), .p (.v (.int .i64 r.f0)), .p (.v (.int .i64 r.fv.fo)), .p (.v (.string r.fv.fa1)), .p (.v (.int .i64 r.fv.f0)), .p (.v (.int .i64 r.fv.fc0)), .p (.v (.int .i64 r.fv.fb9)), .own 1 (List.map (eI .u8) r.fb4)]] [] := by
  refine Qn tb Tryz.func8 Z (by kernel_rfl) Z Z (Nat.le_of_ble_eq_true Z) Z ?_;intro E;unfold UF W3 at h;refine Z3 (fun Q hQ => ?_);refine tD Z ?_;refine tk fun L hL => ?_;refine dN 2 Z ?_;obtain ⟨v1, hv1, h⟩ := h;refine u0 (QR (WM hv1)) ?_;refine dN 3 Z ?_;obtain ⟨v2, hv2, h⟩ := h;refine u0 (QR (WM hv2)) ?_;refine dN 2 Z ?_;refine rt (hL _ ?_);refine sk fun L3 hL3 => ?_;refine tD Z ?_;refine Qr ?_;refine Z2 (fun (p4 : Bool) => (⟨[(0, .c (.p (.l 1 (List.map (eI .i64) a0)))), (1, .c (.p (.v (.int .i64 a1)))), (4, .c (.ptr (4, 0) 0 0)), (5, .c (.p (.v (.int .i64 v1)))), (6, .c (.p (.v (.int .i64 v2)))), (16, .c (.p (.v (.int .i64 (v1.tmod 20))))), (17, .c (.p (.v (.bool p4))))], [((4, 0), some (.box ([.p (.v (.int .i64 0)), .p (.v (.string ByteArray.empty)), .p (.v (.string ByteArray.empty)), .p (.v (.slice none 0 0)), .p (.v (.int .i64 0)), .p (.v (.int .i64 0)), .p (.v (.int .i64 0)), .p (.v (.int .u64 0)), .p (.v (.slice none 0 0)), .p (.v (.slice none 0 0)), .p (.v (.int .i64 0)), .p (.v (.int .i64 0)), .p (.v (.int .i64 0)), .p (.v (.int .i64 0)), .p (.v (.int .i64 0)), .p (.v (.int .i64 0)), .p (.v (.int .i64 0)), .p (.v (.string ByteArray.empty)), .p (.v (.int .i64 0)), .p (.v (.int .i64 0)), .p (.v (.int .i64 0)), .p (.v (.slice none 0 0))])))]⟩ : St)) h (fun p4 h => ?_) (fun J4 L4 hL4 h => ?_)
  · refine cn h (fun h => ?_) fun h => ?_
    · refine tk fun L hL => ?_;refine dN 2 Z ?_;obtain ⟨v5, hv5, h⟩ := h;refine u0 (QR (K7 hv5)) ?_;refine dN 1 Z ?_;obtain ⟨v6, hv6, h⟩ := h;refine u0 (QR (BD hv6)) ?_;refine dN 2 Z ?_;refine rt (hL _ ?_);obtain rfl := h;exact Qf (hQ _ _ ⟨.inr Z, _, _, _, (.cons (.cella Z Z Z Z Z) .nil), (.cons (.agg (Qs (Qs (Qs (YQ (Qs (Qs (Qs (Qs (Ud Z (YQ (Qs (Qs (Qs (Qs (Qs (Qs (Qs (Qs (Qs (Qs (Qs (Ud Z .nil))))))))))))))))))))))) .nil), Z, Z⟩)
    · refine tD Z ?_;refine cn h (fun h => ?_) fun h => ?_
      · refine tk fun L hL => ?_;refine dN 2 Z ?_;obtain ⟨v7, hv7, h⟩ := h;refine u0 (QR (K7 hv7)) ?_;refine dN 2 Z ?_;refine rt (hL _ ?_);obtain rfl := h;exact Qf (hQ _ _ ⟨.inr Z, _, _, _, (.cons (.cella Z Z Z Z Z) .nil), (.cons (.agg (Qs (Qs (Qs (YQ (Qs (Qs (Qs (Qs (Ud Z (YQ (Qs (Qs (Qs (Qs (Qs (Qs (Qs (Qs (Qs (Qs (Qs (Ud Z .nil))))))))))))))))))))))) .nil), Z, Z⟩)
      · refine tD Z ?_;refine cn h (fun h => ?_) fun h => ?_
        · refine tk fun L hL => ?_;refine dN 2 Z ?_;obtain ⟨v8, hv8, h⟩ := h;refine u0 (QR (K7 hv8)) ?_;refine dN 2 Z ?_;obtain ⟨v9, hv9, h⟩ := h;refine u0 (QR (K7 hv9)) ?_;refine dN 2 Z ?_;refine rt (hL _ ?_);obtain rfl := h;exact Qf (hQ _ _ ⟨.inr Z, _, _, _, (.cons (.cella Z Z Z Z Z) .nil), (.cons (.agg (Qs (Qs (Qs (YQ (Qs (Qs (Qs (Qs (Ud Z (YQ (Qs (Qs (Qs (Qs (Qs (Qs (Qs (Qs (Qs (Qs (Qs (Ud Z .nil))))))))))))))))))))))) .nil), Z, Z⟩)
        · refine tD Z ?_;refine cn h (fun h => ?_) fun h => ?_
          · refine tD Z ?_;obtain rfl := h;exact Qf (hQ _ _ ⟨.inr Z, _, _, _, (.cons (.cella Z Z Z Z Z) .nil), (.cons (.agg (Qs (Qs (Qs (YQ (Qs (Qs (Qs (Qs (Ud Z (YQ (Qs (Qs (Qs (Qs (Qs (Qs (Qs (Qs (Qs (Qs (Qs (Ud Z .nil))))))))))))))))))))))) .nil), Z, Z⟩)
          · refine tD Z ?_;refine cn h (fun h => ?_) fun h => ?_
            · refine tk fun L hL => ?_;refine dN 2 Z ?_;obtain ⟨v10, hv10, h⟩ := h;refine u0 (QR (K7 hv10)) ?_;refine dN 1 Z ?_;obtain ⟨v11, hv11, h⟩ := h;refine u0 (QR (CS hv11)) ?_;refine dN 2 Z ?_;refine rt (hL _ ?_);obtain rfl := h;exact Qf (hQ _ _ ⟨.inr Z, _, _, _, (.cons (.cella Z Z Z Z Z) .nil), (.cons (.agg (Qs (Qs (Qs (YQ (Qs (Qs (Qs (Qs (Ud Z (YQ (Qs (Qs (Qs (Qs (Qs (Qs (Qs (Qs (Qs (Qs (Qs (Ud Z .nil))))))))))))))))))))))) .nil), Z, Z⟩)
            · refine Z2 (fun (p12 : Bool) => (⟨[(0, .c (.p (.l 1 (List.map (eI .i64) a0)))), (1, .c (.p (.v (.int .i64 a1)))), (4, .c (.ptr (4, 0) 0 0)), (5, .c (.p (.v (.int .i64 v1)))), (6, .c (.p (.v (.int .i64 v2)))), (16, .c (.p (.v (.int .i64 (v1.tmod 20))))), (52, .c (.p (.v (.bool p12))))], [((4, 0), some (.box ([.p (.v (.int .i64 0)), .p (.v (.string ByteArray.empty)), .p (.v (.string ByteArray.empty)), .p (.v (.slice none 0 0)), .p (.v (.int .i64 0)), .p (.v (.int .i64 0)), .p (.v (.int .i64 0)), .p (.v (.int .u64 0)), .p (.v (.slice none 0 0)), .p (.v (.slice none 0 0)), .p (.v (.int .i64 0)), .p (.v (.int .i64 0)), .p (.v (.int .i64 0)), .p (.v (.int .i64 0)), .p (.v (.int .i64 0)), .p (.v (.int .i64 0)), .p (.v (.int .i64 0)), .p (.v (.string ByteArray.empty)), .p (.v (.int .i64 0)), .p (.v (.int .i64 0)), .p (.v (.int .i64 0)), .p (.v (.slice none 0 0))])))]⟩ : St)) h (fun p12 h => ?_) (fun J12 L12 hL12 h => ?_)
              · refine cn h (fun h => ?_) fun h => ?_
                · refine dk mixed (fun L hL => ?_);refine dN 2 Z ?_;obtain ⟨v13, hv13, h⟩ := h;refine u0 (QR (K7 hv13)) ?_;refine dN 2 Z ?_;refine u0 QA ?_;refine dN 2 Z ?_;refine u0 (CJ (n := XW ((a0.length : Int)) (a1.tmod 5))) ?_;obtain ⟨hm14, h⟩ := h;refine u0 (BZ hm14) ?_;refine dN 4 Z ?_;obtain ⟨v15, hv15, h⟩ := h;refine ul (Zt (CW hv15)) ?_;refine dN 1 Z ?_;obtain ⟨v16, hv16, h⟩ := h;refine u0 (QR (WL hv16)) ?_;refine dN 2 Z ?_;refine rd (hL _ ?_);obtain rfl := h;exact Qf (hQ _ _ ⟨.inr Z, _, _, _, (.cons (.cella Z Z Z Z Z) .nil), (.cons (.agg (Qs (Qs (Qs (YQ (Qs (Qs (Qs (Qs (.cons (.own Z Z) (Qs (Qs (Qs (Qs (Qs (Qs (Qs (Qs (Qs (Qs (Qs (Qs (Ud Z .nil))))))))))))))))))))))) .nil), Z, Z⟩)
                · refine tD Z ?_;refine cn h (fun h => ?_) fun h => ?_
                  · refine tk fun L hL => ?_;refine dN 2 Z ?_;obtain ⟨v17, hv17, h⟩ := h;refine u0 (QR (K7 hv17)) ?_;refine dN 2 Z ?_;obtain ⟨v18, hv18, h⟩ := h;refine u0 (QR (K7 hv18)) ?_;refine dN 1 Z ?_;obtain ⟨v19, hv19, h⟩ := h;refine u0 (QR (WL hv19)) ?_;refine dN 2 Z ?_;refine rt (hL _ ?_);obtain rfl := h;exact Qf (hQ _ _ ⟨.inr Z, _, _, _, (.cons (.cella Z Z Z Z Z) .nil), (.cons (.agg (Qs (Qs (Qs (YQ (Qs (Qs (Qs (Qs (Ud Z (Qs (Qs (Qs (Qs (Qs (Qs (Qs (Qs (Qs (Qs (Qs (Qs (Ud Z .nil))))))))))))))))))))))) .nil), Z, Z⟩)
                  · refine tD Z ?_;refine cn h (fun h => ?_) fun h => ?_
                    · refine tk fun L hL => ?_;refine dN 2 Z ?_;obtain ⟨v20, hv20, h⟩ := h;refine u0 (QR (K7 hv20)) ?_;refine dN 2 Z ?_;obtain ⟨v21, hv21, h⟩ := h;refine u0 (QR (K7 hv21)) ?_;refine dN 1 Z ?_;obtain ⟨v22, hv22, h⟩ := h;refine u0 (QR (WL hv22)) ?_;refine dN 9 Z ?_;refine rt (hL _ ?_);obtain rfl := h;exact Qf (hQ _ _ ⟨.inr Z, _, _, _, (.cons (.cella Z Z Z Z Z) .nil), (.cons (.agg (Qs (Qs (Qs (YQ (Qs (Qs (Qs (Qs (Ud Z (Qs (Qs (Qs (Qs (Qs (Qs (Qs (Qs (Qs (Qs (Qs (Qs (Ud Z .nil))))))))))))))))))))))) .nil), Z, Z⟩)
                    · refine Z2 (fun (p23 : Bool) => (⟨[(0, .c (.p (.l 1 (List.map (eI .i64) a0)))), (1, .c (.p (.v (.int .i64 a1)))), (4, .c (.ptr (4, 0) 0 0)), (5, .c (.p (.v (.int .i64 v1)))), (6, .c (.p (.v (.int .i64 v2)))), (16, .c (.p (.v (.int .i64 (v1.tmod 20))))), (103, .c (.p (.v (.bool p23))))], [((4, 0), some (.box ([.p (.v (.int .i64 0)), .p (.v (.string ByteArray.empty)), .p (.v (.string ByteArray.empty)), .p (.v (.slice none 0 0)), .p (.v (.int .i64 0)), .p (.v (.int .i64 0)), .p (.v (.int .i64 0)), .p (.v (.int .u64 0)), .p (.v (.slice none 0 0)), .p (.v (.slice none 0 0)), .p (.v (.int .i64 0)), .p (.v (.int .i64 0)), .p (.v (.int .i64 0)), .p (.v (.int .i64 0)), .p (.v (.int .i64 0)), .p (.v (.int .i64 0)), .p (.v (.int .i64 0)), .p (.v (.string ByteArray.empty)), .p (.v (.int .i64 0)), .p (.v (.int .i64 0)), .p (.v (.int .i64 0)), .p (.v (.slice none 0 0))])))]⟩ : St)) h (fun p23 h => ?_) (fun J23 L23 hL23 h => ?_)
                      · refine cn h (fun h => ?_) fun h => ?_
                        · refine tk fun L hL => ?_;refine dN 2 Z ?_;obtain ⟨v24, hv24, h⟩ := h;refine u0 (QR (K7 hv24)) ?_;refine dN 2 Z ?_;obtain ⟨v25, hv25, h⟩ := h;refine u0 (QR (K7 hv25)) ?_;refine dN 2 Z ?_;obtain ⟨v26, hv26, h⟩ := h;refine u0 (QR (K7 hv26)) ?_;refine ul (QF (rows := List.map eS [v24, v25, v26])) ?_;refine dN 3 Z ?_;refine rt (hL _ ?_);refine tk fun L hL => ?_;refine dN 10 Z ?_;obtain ⟨hm27, h⟩ := h;refine u0 (Ly hm27) ?_;refine dN 2 Z ?_;refine rt (hL _ ?_);refine tD Z ?_;obtain rfl := h;exact Qf (hQ _ _ ⟨.inr Z, _, _, _, (.cons (.cella Z Z Z Z Z) .nil), (.cons (.agg (Qs (Qs (Qs (.cons (.fr Z LA) (Qs (Qs (Qs (Qs (Ud Z (YQ (Qs (Qs (Qs (Qs (Qs (Qs (Qs (Qs (Qs (Qs (Qs (Ud Z .nil))))))))))))))))))))))) .nil), Z, Z⟩)
                        · refine tD Z ?_;refine cn h (fun h => ?_) fun h => ?_
                          · refine tk fun L hL => ?_;refine dN 7 Z ?_;obtain ⟨v28, hv28, h⟩ := h;refine u0 (QR (CS hv28)) ?_;refine dN 2 Z ?_;refine rt (hL _ ?_);obtain rfl := h;exact Qf (hQ _ _ ⟨.inr Z, _, _, _, (.cons (.cella Z Z Z Z Z) .nil), (.cons (.agg (Qs (Qs (Qs (YQ (Qs (Qs (Qs (Qs (Ud Z (YQ (Qs (Qs (Qs (Qs (Qs (Qs (Qs (Qs (Qs (Qs (Qs (Ud Z .nil))))))))))))))))))))))) .nil), Z, Z⟩)
                          · refine tD Z ?_;refine cn h (fun h => ?_) fun h => ?_
                            · refine tD Z ?_;obtain rfl := h;exact Qf (hQ _ _ ⟨.inr Z, _, _, _, (.cons (.cella Z Z Z Z Z) .nil), (.cons (.agg (Qs (Qs (Qs (YQ (Qs (Qs (Qs (Qs (Ud Z (YQ (Qs (Qs (Qs (Qs (Qs (Qs (Qs (Qs (Qs (Qs (Qs (Ud Z .nil))))))))))))))))))))))) .nil), Z, Z⟩)
                            · refine tD Z ?_;refine cn h (fun h => ?_) fun h => ?_
                              · refine tD Z ?_;obtain rfl := h;exact Qf (hQ _ _ ⟨.inr Z, _, _, _, (.cons (.cella Z Z Z Z Z) .nil), (.cons (.agg (Qs (Qs (Qs (YQ (Qs (Qs (Qs (Qs (Ud Z (YQ (Qs (Qs (Qs (Qs (Qs (Qs (Qs (Qs (Qs (Qs (Qs (Ud Z .nil))))))))))))))))))))))) .nil), Z, Z⟩)
                              · refine tD Z ?_;refine cn h (fun h => ?_) fun h => ?_
                                · refine tD Z ?_;obtain rfl := h;exact Qf (hQ _ _ ⟨.inr Z, _, _, _, (.cons (.cella Z Z Z Z Z) .nil), (.cons (.agg (Qs (Qs (Qs (YQ (Qs (Qs (Qs (Qs (Ud Z (YQ (Qs (Qs (Qs (Qs (Qs (Qs (Qs (Qs (Qs (Qs (Qs (Ud Z .nil))))))))))))))))))))))) .nil), Z, Z⟩)
                                · refine tD Z ?_;refine cn h (fun h => ?_) fun h => ?_
                                  · refine tD Z ?_;obtain rfl := h;exact Qf (hQ _ _ ⟨.inr Z, _, _, _, (.cons (.cella Z Z Z Z Z) .nil), (.cons (.agg (Qs (Qs (Qs (YQ (Qs (Qs (Qs (Qs (Ud Z (YQ (Qs (Qs (Qs (Qs (Qs (Qs (Qs (Qs (Qs (Qs (Qs (Ud Z .nil))))))))))))))))))))))) .nil), Z, Z⟩)
                                  · refine tD Z ?_;refine cn h (fun h => ?_) fun h => ?_
                                    · refine sk fun L29 hL29 => ?_;refine tD Z ?_;refine cn h (fun h => ?_) fun h => ?_
                                      · refine tD Z ?_;obtain rfl := h;exact Qf (hQ _ _ ⟨.inr Z, _, _, _, (.cons (.cella Z Z Z Z Z) .nil), (.cons (.agg (Qs (Qs (Qs (YQ (Qs (Qs (Qs (Qs (Ud Z (YQ (Qs (Qs (Qs (Qs (Qs (Qs (Qs (Qs (Qs (Qs (Qs (Ud Z .nil))))))))))))))))))))))) .nil), Z, Z⟩)
                                      · refine Qh (hL29 _ ?_);refine dk mixed (fun L hL => ?_);refine dN 2 Z ?_;obtain ⟨v30, hv30, h⟩ := h;refine u0 (QR (K7 hv30)) ?_;refine dN 2 Z ?_;refine u0 QA ?_;refine dN 2 Z ?_;refine u0 (CJ (n := XW ((a0.length : Int)) (a1.tmod 7))) ?_;obtain ⟨hm31, h⟩ := h;refine u0 (BZ hm31) ?_;obtain ⟨v32, hv32, h⟩ := h;refine u0 (QR (FW hv32)) ?_;obtain ⟨v33, hv33, h⟩ := h;refine ul (Zt (FK hv33)) ?_;refine dN 2 Z ?_;refine rd (hL _ ?_);obtain rfl := h;exact Qf (hQ _ _ ⟨.inr Z, _, _, _, (.cons (.cella Z Z Z Z Z) .nil), (.cons (.agg (Qs (Qs (Qs (YQ (Qs (Qs (Qs (Qs (Ud Z (YQ (Qs (Qs (Qs (Qs (Qs (Qs (Qs (Qs (Qs (Qs (Qs (.cons (.own Z Z) .nil))))))))))))))))))))))) .nil), Z, Z⟩)
                                    · refine Qh (hL3 _ ?_);refine tD Z ?_;obtain rfl := h;exact Qf (hQ _ _ ⟨.inr Z, _, _, _, (.cons (.cella Z Z Z Z Z) .nil), (.cons (.agg (Qs (Qs (Qs (YQ (Qs (Qs (Qs (Qs (Ud Z (YQ (Qs (Qs (Qs (Qs (Qs (Qs (Qs (Qs (Qs (Qs (Qs (Ud Z .nil))))))))))))))))))))))) .nil), Z, Z⟩)
                      · refine tD Z ?_;refine cn h (fun h => ?_) fun h => ?_
                        · refine Qh (hL23 _ _ h QC.fit)
                        · refine tE Z (hL23 _ _ h QC.fit)
              · refine tD Z ?_;refine cn h (fun h => ?_) fun h => ?_
                · refine Qh (hL12 _ _ h QC.fit)
                · refine tD Z ?_;refine cn h (fun h => ?_) fun h => ?_
                  · refine Qh (hL12 _ _ h QC.fit)
                  · refine tE Z (hL12 _ _ h QC.fit)
  · refine tD Z ?_;refine cn h (fun h => ?_) fun h => ?_
    · refine Qh (hL4 _ _ h QC.fit)
    · refine tE Z (hL4 _ _ h QC.fit)
def WU (a0 : Int) (a1 : Int) (a2 : Int) (Q : Bool → Prop) : Prop :=
 Q (((bif decide (a0 ≥ a1) then decide (a0 ≤ a2) else false)))
def Zp (a0 : Int) (a1 : Int) (a2 : Int) (r : Bool) : Prop := WU a0 a1 a2 fun x => r = x
theorem Kx {a0 : Int} {a1 : Int} {a2 : Int} {r : Bool} (h : Zp a0 a1 a2 r) : Qp Tryz.prog 50 [.c (.v (.int .i64 a0)), .c (.v (.int .i64 a1)), .c (.v (.int .i64 a2))] [.c (.p (.v (.bool r)))] [] := by
  refine Qn tb Tryz.func50 Z (by kernel_rfl) Z Z (Nat.le_of_ble_eq_true Z) Z ?_;intro E;unfold Zp WU at h;refine Z3 (fun Q hQ => ?_);refine tD Z ?_;refine tk fun L hL => ?_;refine dN 4 Z ?_;refine Q2 Z Z Q8 (fun hg => Qc Z Z) ?_;refine Q2 Z Z Q8 (fun hg => Qc Z Z) ?_;refine Q2 Z Z Q8 (fun hg => Qz (c := decide (a0 ≤ a2)) (Qa hg) (Qa hg) Z Z Z) ?_;refine u0 (Ql (v := .bool (decide (a0 ≤ a2))) (w := .bool false) Z Z Q8 Z Qw) ?_;refine dN 1 Z ?_;refine rt (hL _ ?_);obtain rfl := h;exact Qf (hQ _ _ (Zq Z Z))
def Cl (a0 : Int) (a1 : (List Int)) (Q : Bool → Prop) : Prop :=
 jn (fun (p1 : Unit) => Q false) (fun (J1 : Unit → Prop) => lp (fun (X2 : Int → Prop) (s2 : Int) => (((decide (s2 < ((a1.length : Int)))) = true → ∃ v5, ix a1 s2 v5 ∧ ((((v5 == a0)) = true → Q true) ∧ (((v5 == a0)) = false → X2 ((IntKind.i64.wrap (s2 + 1)))))) ∧ ((decide (s2 < ((a1.length : Int)))) = false → J1 (())))) 0)
def ZS (a0 : Int) (a1 : (List Int)) (r : Bool) : Prop := Cl a0 a1 fun x => r = x
theorem KW {a0 : Int} {a1 : (List Int)} {r : Bool} (h : ZS a0 a1 r) : Qp Tryz.prog 77 [.c (.v (.int .i64 a0)), .c (.l 1 (List.map (eI .i64) a1))] [.c (.p (.v (.bool r)))] [] := by
  refine Qn tb Tryz.func77 Z (by kernel_rfl) Z Z (Nat.le_of_ble_eq_true Z) Z ?_;intro E;unfold ZS Cl at h;refine Z3 (fun Q hQ => ?_);refine tD Z ?_;refine Z2 (fun (p1 : Unit) => (⟨[], []⟩ : St)) h (fun p1 h => ?_) (fun J1 L1 hL1 h => ?_)
  · refine tD Z ?_;obtain rfl := h;exact Qf (hQ _ _ (Zq Z Z))
  · refine tD Z ?_;refine Qr ?_;refine Zn (fun (s2 : Int) => (⟨[(0, .c (.p (.v (.int .i64 a0)))), (1, .c (.p (.l 1 (List.map (eI .i64) a1)))), (5, .c (.p (.v (.int .i64 s2))))], []⟩ : St)) h QC.fit (fun X2 L2 hL2 s2 h => ?_);refine sk fun L3 hL3 => ?_;refine tk fun L hL => ?_;refine dN 2 Z ?_;refine u0 QA ?_;refine dN 1 Z ?_;refine rt (hL _ ?_);refine cn h (fun h => ?_) fun h => ?_
    · refine Qh (hL3 _ ?_);refine sk fun L4 hL4 => ?_;refine Qr ?_;refine tk fun L hL => ?_;refine dN 2 Z ?_;obtain ⟨v5, hv5, h⟩ := h;refine u0 (QB hv5) ?_;refine dN 3 Z ?_;refine rt (hL _ ?_);refine cn h (fun h => ?_) fun h => ?_
      · refine tD Z ?_;obtain rfl := h;exact Qf (hQ _ _ (Zq Z Z))
      · refine Qh (hL4 _ ?_);refine tE Z (hL2 _ _ h QC.fit)
    · refine QP (hL1 _ _ h QC.fit)
def A4 (a0 : Int) (Q : Ku → Prop) : Prop :=
 ∃ v1, ZS a0 ([1, 2, 3, 5, 6, 7, 8, 16]) v1 ∧ ∃ v2, ZS a0 ([3, 7, 8]) v2 ∧ ∃ v3, ZS a0 ([9]) v3 ∧ ∃ v4, ZS a0 ([1]) v4 ∧ ∃ v5, ZS a0 ([6]) v5 ∧ ∃ v6, ZS a0 ([6, 7, 8]) v6 ∧ ∃ v7, ZS a0 ([8]) v7 ∧ ∃ v8, ZS a0 ([10, 11, 12, 15]) v8 ∧ ∃ v9, ZS a0 ([10, 12, 15]) v9 ∧ ∃ v10, ZS a0 ([13, 14]) v10 ∧ ∃ v11, ZS a0 ([13]) v11 ∧ ∃ v12, ZS a0 ([5, 10]) v12 ∧ ∃ v13, ZS a0 ([16]) v13 ∧ Q ((Ku.mk v1 v2 v3 v4 v5 v6 v7 v8 v9 v10 v11 v12 v13))
def YH (a0 : Int) (r : Ku) : Prop := A4 a0 fun x => r = x
theorem H5 {a0 : Int} {r : Ku} (h : YH a0 r) : Qp Tryz.prog 51 [.c (.v (.int .i64 a0))] [.agg [.p (.v (.bool r.fe0)), .p (.v (.bool r.fe1)), .p (.v (.bool r.fe2)), .p (.v (.bool r.fe3)), .p (.v (.bool r.fe4)), .p (.v (.bool r.fe5)), .p (.v (.bool r.fe6)), .p (.v (.bool r.fe7)), .p (.v (.bool r.fe8)), .p (.v (.bool r.fe9)), .p (.v (.bool r.fe10)), .p (.v (.bool r.fe11)), .p (.v (.bool r.fe12))]] [] := by
  refine Qn tb Tryz.func51 Z (by kernel_rfl) Z Z (Nat.le_of_ble_eq_true Z) Z ?_;intro E;unfold YH A4 at h;refine Z3 (fun Q hQ => ?_);refine tD Z ?_;refine tk fun L hL => ?_;refine dN 1 Z ?_;refine ul (QF (rows := List.map (eI .i64) [1, 2, 3, 5, 6, 7, 8, 16])) ?_;obtain ⟨v1, hv1, h⟩ := h;refine ul (Ze (KW hv1) (YC (K8.cons (.p Z) K8.nil)) Z Z (.cons (.c (.p _)) (.cons (.c (.fr Z (QH Z))) .nil))) ?_;refine dN 1 Z ?_;refine ul (QF (rows := List.map (eI .i64) [3, 7, 8])) ?_;obtain ⟨v2, hv2, h⟩ := h;refine ul (Ze (KW hv2) (YC (K8.cons (.p Z) K8.nil)) Z Z (.cons (.c (.p _)) (.cons (.c (.fr Z (QH Z))) .nil))) ?_;refine dN 1 Z ?_;refine ul (QF (rows := List.map (eI .i64) [9])) ?_;obtain ⟨v3, hv3, h⟩ := h;refine ul (Ze (KW hv3) (YC (K8.cons (.p Z) K8.nil)) Z Z (.cons (.c (.p _)) (.cons (.c (.fr Z (QH Z))) .nil))) ?_;refine dN 1 Z ?_;refine ul (QF (rows := List.map (eI .i64) [1])) ?_;obtain ⟨v4, hv4, h⟩ := h;refine ul (Ze (KW hv4) (YC (K8.cons (.p Z) K8.nil)) Z Z (.cons (.c (.p _)) (.cons (.c (.fr Z (QH Z))) .nil))) ?_;refine dN 1 Z ?_
  refine ul (QF (rows := List.map (eI .i64) [6])) ?_;obtain ⟨v5, hv5, h⟩ := h;refine ul (Ze (KW hv5) (YC (K8.cons (.p Z) K8.nil)) Z Z (.cons (.c (.p _)) (.cons (.c (.fr Z (QH Z))) .nil))) ?_;refine dN 1 Z ?_;refine ul (QF (rows := List.map (eI .i64) [6, 7, 8])) ?_;obtain ⟨v6, hv6, h⟩ := h;refine ul (Ze (KW hv6) (YC (K8.cons (.p Z) K8.nil)) Z Z (.cons (.c (.p _)) (.cons (.c (.fr Z (QH Z))) .nil))) ?_;refine dN 1 Z ?_;refine ul (QF (rows := List.map (eI .i64) [8])) ?_;obtain ⟨v7, hv7, h⟩ := h;refine ul (Ze (KW hv7) (YC (K8.cons (.p Z) K8.nil)) Z Z (.cons (.c (.p _)) (.cons (.c (.fr Z (QH Z))) .nil))) ?_;refine dN 1 Z ?_;refine ul (QF (rows := List.map (eI .i64) [10, 11, 12, 15])) ?_;obtain ⟨v8, hv8, h⟩ := h;refine ul (Ze (KW hv8) (YC (K8.cons (.p Z) K8.nil)) Z Z (.cons (.c (.p _)) (.cons (.c (.fr Z (QH Z))) .nil))) ?_;refine dN 1 Z ?_;refine ul (QF (rows := List.map (eI .i64) [10, 12, 15])) ?_;obtain ⟨v9, hv9, h⟩ := h;refine ul (Ze (KW hv9) (YC (K8.cons (.p Z) K8.nil)) Z Z (.cons (.c (.p _)) (.cons (.c (.fr Z (QH Z))) .nil))) ?_
  refine dN 1 Z ?_;refine ul (QF (rows := List.map (eI .i64) [13, 14])) ?_;obtain ⟨v10, hv10, h⟩ := h;refine ul (Ze (KW hv10) (YC (K8.cons (.p Z) K8.nil)) Z Z (.cons (.c (.p _)) (.cons (.c (.fr Z (QH Z))) .nil))) ?_;refine dN 1 Z ?_;refine ul (QF (rows := List.map (eI .i64) [13])) ?_;obtain ⟨v11, hv11, h⟩ := h;refine ul (Ze (KW hv11) (YC (K8.cons (.p Z) K8.nil)) Z Z (.cons (.c (.p _)) (.cons (.c (.fr Z (QH Z))) .nil))) ?_;refine dN 1 Z ?_;refine ul (QF (rows := List.map (eI .i64) [5, 10])) ?_;obtain ⟨v12, hv12, h⟩ := h;refine ul (Ze (KW hv12) (YC (K8.cons (.p Z) K8.nil)) Z Z (.cons (.c (.p _)) (.cons (.c (.fr Z (QH Z))) .nil))) ?_;refine dN 1 Z ?_;refine ul (QF (rows := List.map (eI .i64) [16])) ?_;obtain ⟨v13, hv13, h⟩ := h;refine ul (Ze (KW hv13) (YC (K8.cons (.p Z) K8.nil)) Z Z (.cons (.c (.p _)) (.cons (.c (.fr Z (QH Z))) .nil))) ?_;refine u0 (HT (cs := [.p (.v (.bool v1)), .p (.v (.bool v2)), .p (.v (.bool v3)), .p (.v (.bool v4)), .p (.v (.bool v5)), .p (.v (.bool v6)), .p (.v (.bool v7)), .p (.v (.bool v8)), .p (.v (.bool v9)), .p (.v (.bool v10)), .p (.v (.bool v11)), .p (.v (.bool v12)), .p (.v (.bool v13))]) Z Z Z Z Z (by kernel_rfl)) ?_
  refine dN 1 Z ?_;refine rt (hL _ ?_);refine QQ (st' := ⟨[(2, .c (.ptr (2, 0) 0 0))], [((2, 0), some (.box ([.p (.v (.bool v1)), .p (.v (.bool v2)), .p (.v (.bool v3)), .p (.v (.bool v4)), .p (.v (.bool v5)), .p (.v (.bool v6)), .p (.v (.bool v7)), .p (.v (.bool v8)), .p (.v (.bool v9)), .p (.v (.bool v10)), .p (.v (.bool v11)), .p (.v (.bool v12)), .p (.v (.bool v13))])))]⟩) QC.fit ?_;obtain rfl := h;exact Qf (hQ _ _ ⟨.inr Z, _, _, _, (.cons (.cella Z Z Z Z Z) .nil), (.cons (.agg (Qs (Qs (Qs (Qs (Qs (Qs (Qs (Qs (Qs (Qs (Qs (Qs (Qs .nil)))))))))))))) .nil), Z, Z⟩)
def WV (a0 : Int) (a1 : Int) (a2 : Int) (Q : Bool → Prop) : Prop :=
 Q (((bif decide (a0 ≥ a1) then decide (a0 ≤ a2) else false)))
def JF (a0 : Int) (a1 : Int) (a2 : Int) (r : Bool) : Prop := WV a0 a1 a2 fun x => r = x
theorem WW {a0 : Int} {a1 : Int} {a2 : Int} {r : Bool} (h : JF a0 a1 a2 r) : Qp Tryz.prog 78 [.c (.v (.int .u8 a0)), .c (.v (.int .u8 a1)), .c (.v (.int .u8 a2))] [.c (.p (.v (.bool r)))] [] := by
  refine Qn tb Tryz.func78 Z (by kernel_rfl) Z Z (Nat.le_of_ble_eq_true Z) Z ?_;intro E;unfold JF WV at h;refine Z3 (fun Q hQ => ?_);refine tD Z ?_;refine tk fun L hL => ?_;refine dN 4 Z ?_;refine Q2 Z Z Q8 (fun hg => Qc Z Z) ?_;refine Q2 Z Z Q8 (fun hg => Qc Z Z) ?_;refine Q2 Z Z Q8 (fun hg => Qz (c := decide (a0 ≤ a2)) (Qa hg) (Qa hg) Z Z Z) ?_;refine u0 (Ql (v := .bool (decide (a0 ≤ a2))) (w := .bool false) Z Z Q8 Z Qw) ?_;refine dN 1 Z ?_;refine rt (hL _ ?_);obtain rfl := h;exact Qf (hQ _ _ (Zq Z Z))
def Un (a0 : ByteArray) (Q : Bool → Prop) : Prop :=
 ∃ (v2 : Int), ((!((bif decide (((a0.size : Int)) < 1) then true else decide (((a0.size : Int)) > 16)))) = true → bx a0 0 v2) ∧ ∃ (v3 : Bool), ((!((bif decide (((a0.size : Int)) < 1) then true else decide (((a0.size : Int)) > 16)))) = true → JF v2 97 122 v3) ∧ ((((bif (bif decide (((a0.size : Int)) < 1) then true else decide (((a0.size : Int)) > 16)) then true else !(v3))) = true → Q false) ∧ (((bif (bif decide (((a0.size : Int)) < 1) then true else decide (((a0.size : Int)) > 16)) then true else !(v3))) = false → jn (fun (p4 : Unit) => Q true) (fun (J4 : Unit → Prop) => lp (fun (X5 : Int → Prop) (s5 : Int) => (((decide (s5 < ((a0.size : Int)))) = true → ∃ v8, bx a0 s5 v8 ∧ ∃ v9, JF v8 97 122 v9 ∧ ∃ (v10 : Int), ((!(v9)) = true → bx a0 s5 v10) ∧ ∃ (v11 : Bool), ((!(v9)) = true → JF v10 48 57 v11) ∧ ∃ (v12 : Int), (((bif !(v9) then !(v11) else false)) = true → bx a0 s5 v12) ∧ ∃ (v13 : Int), (((bif (bif !(v9) then !(v11) else false) then (v12 != 45) else false)) = true → bx a0 s5 v13) ∧ ((((bif (bif (bif !(v9) then !(v11) else false) then (v12 != 45) else false) then (v13 != 46) else false)) = true → Q false) ∧ (((bif (bif (bif !(v9) then !(v11) else false) then (v12 != 45) else false) then (v13 != 46) else false)) = false → X5 ((IntKind.i64.wrap (s5 + 1)))))) ∧ ((decide (s5 < ((a0.size : Int)))) = false → J4 (())))) 0)))
def JZ (a0 : ByteArray) (r : Bool) : Prop := Un a0 fun x => r = x
theorem Uo {a0 : ByteArray} {r : Bool} (h : JZ a0 r) : Qp Tryz.prog 52 [.c (.v (.string a0))] [.c (.p (.v (.bool r)))] [] := by
  refine Qn tb Tryz.func52 Z (by kernel_rfl) Z Z (Nat.le_of_ble_eq_true Z) Z ?_;intro E;unfold JZ Un at h;refine Z3 (fun Q hQ => ?_);refine tD Z ?_;refine sk fun L1 hL1 => ?_;refine tk fun L hL => ?_;refine dN 1 Z ?_;refine u0 Kk ?_;refine dN 2 Z ?_;refine Q2 Z Z Q4 (fun hg => Qc Z Z) ?_;refine Q2 Z Z Q4 (fun hg => Kk (Qa hg) Z Z Z) ?_;refine Q2 Z Z Q4 (fun hg => Qz (c := decide (((a0.size : Int)) > 16)) (Qa hg) Z Z Z Z) ?_;refine u0 (Qm (v := .bool true) (w := .bool (decide (((a0.size : Int)) > 16))) Z Z Q4 Z Qw) ?_;refine dN 1 Z ?_;refine Q2 Z Z Q4 (fun hg => Qc Z Z) ?_;obtain ⟨v2, hv2, h⟩ := h;refine Q2 Z Z Q4 (fun hg => Vr (hv2 hg) (Qa hg) Z Z Z Z Z) ?_;obtain ⟨v3, hv3, h⟩ := h;refine Q2 Z Z Q4 (fun hg => QN (WW (hv3 hg)) Z Z (.cons (Zd hg (.c (.p _))) (.cons (.c (.p _)) (.cons (.c (.p _)) .nil))) Z Z Z) ?_;refine Q2 Z Z Q4 (fun hg => QY (Qa hg) Z Z) ?_;refine u0 (Qm (v := .bool true) (w := .bool (!(v3))) Z Z Q4 Z Qw) ?_;refine rt (hL _ ?_);refine cn h (fun h => ?_) fun h => ?_
  · refine tD Z ?_;obtain rfl := h;exact Qf (hQ _ _ (Zq Z Z))
  · refine Qh (hL1 _ ?_);refine QQ (st' := ⟨[(0, .c (.p (.v (.string a0))))], []⟩) QC.fit ?_;refine Z2 (fun (p4 : Unit) => (⟨[], []⟩ : St)) h (fun p4 h => ?_) (fun J4 L4 hL4 h => ?_)
    · refine tD Z ?_;obtain rfl := h;exact Qf (hQ _ _ (Zq Z Z))
    · refine tD Z ?_;refine Qr ?_;refine Zn (fun (s5 : Int) => (⟨[(0, .c (.p (.v (.string a0)))), (3, .c (.p (.v (.int .i64 s5))))], []⟩ : St)) h QC.fit (fun X5 L5 hL5 s5 h => ?_);refine sk fun L6 hL6 => ?_;refine tk fun L hL => ?_;refine dN 2 Z ?_;refine u0 Kk ?_;refine dN 1 Z ?_;refine rt (hL _ ?_);refine cn h (fun h => ?_) fun h => ?_
      · refine Qh (hL6 _ ?_);refine sk fun L7 hL7 => ?_;refine Qr ?_;refine tk fun L hL => ?_;refine dN 2 Z ?_;obtain ⟨v8, hv8, h⟩ := h;refine u0 (Vr hv8) ?_;obtain ⟨v9, hv9, h⟩ := h;refine u0 (QR (WW hv9)) ?_;refine dN 2 Z ?_;refine Q2 Z Z Q8 (fun hg => Qc Z Z) ?_;refine Q2 Z Z Q8 (fun hg => Qc Z Z) ?_;obtain ⟨v10, hv10, h⟩ := h;refine Q2 Z Z Q8 (fun hg => Vr (hv10 hg) (Qa hg) (Qa hg) Z Z Z Z) ?_;obtain ⟨v11, hv11, h⟩ := h;refine Q2 Z Z Q8 (fun hg => QN (WW (hv11 hg)) Z Z (.cons (Zd hg (.c (.p _))) (.cons (.c (.p _)) (.cons (.c (.p _)) .nil))) Z Z Z) ?_;refine Q2 Z Z Q8 (fun hg => QY (Qa hg) Z Z) ?_;refine u0 (Ql (v := .bool (!(v11))) (w := .bool false) Z Z Q8 Z Qw) ?_;refine dN 1 Z ?_;refine Q2 Z Z Q8 (fun hg => Qc Z Z) ?_;refine Q2 Z Z Q8 (fun hg => Qc Z Z) ?_;obtain ⟨v12, hv12, h⟩ := h;refine Q2 Z Z Q8 (fun hg => Vr (hv12 hg) (Qa hg) (Qa hg) Z Z Z Z) ?_;refine Q2 Z Z Q8 (fun hg => Qz (c := (v12 != 45)) (Qa hg) Z Z Z Z) ?_;refine u0 (Ql (v := .bool ((v12 != 45))) (w := .bool false) Z Z Q8 Z Qw) ?_
        refine dN 1 Z ?_;refine Q2 Z Z Q8 (fun hg => Qc Z Z) ?_;refine Q2 Z Z Q8 (fun hg => Qc Z Z) ?_;obtain ⟨v13, hv13, h⟩ := h;refine Q2 Z Z Q8 (fun hg => Vr (hv13 hg) (Qa hg) (Qa hg) Z Z Z Z) ?_;refine Q2 Z Z Q8 (fun hg => Qz (c := (v13 != 46)) (Qa hg) Z Z Z Z) ?_;refine u0 (Ql (v := .bool ((v13 != 46))) (w := .bool false) Z Z Q8 Z Qw) ?_;refine rt (hL _ ?_);refine cn h (fun h => ?_) fun h => ?_
        · refine tD Z ?_;obtain rfl := h;exact Qf (hQ _ _ (Zq Z Z))
        · refine Qh (hL7 _ ?_);refine QQ (st' := ⟨[(0, .c (.p (.v (.string a0)))), (3, .c (.p (.v (.int .i64 s5))))], []⟩) QC.fit ?_;refine tE Z (hL5 _ _ h QC.fit)
      · refine QP (hL4 _ _ h QC.fit)
def Up (a0 : Qq) (a1 : Bool) (a2 : Bool) (Q : Int → Prop) : Prop :=
 jn (fun (p1 : Unit) => jn (fun (p9 : Unit) => Q 0) (fun (J9 : Unit → Prop) => ((a2 = true → ∃ v11, Zp ((a0.f8.length : Int)) 1 64 v11 ∧ (((!(v11)) = true → Q 5) ∧ ((!(v11)) = false → lp (fun (X12 : Int → Prop) (s12 : Int) => (((decide (s12 < ((a0.f8.length : Int)))) = true → ∃ v15, ix a0.f8 s12 v15 ∧ ∃ v16, Z6 v15 v16 ∧ ((((v16 != 0)) = true → Q v16) ∧ (((v16 != 0)) = false → X12 ((IntKind.i64.wrap (s12 + 1)))))) ∧ ((decide (s12 < ((a0.f8.length : Int)))) = false → J9 (())))) 0))) ∧ (a2 = false → J9 (()))))) (fun (J1 : Unit → Prop) => ((a1 = true → ∃ v3, Zp ((a0.fa2.length : Int)) 1 16 v3 ∧ (((!(v3)) = true → Q 5) ∧ ((!(v3)) = false → lp (fun (X4 : Int → Prop) (s4 : Int) => (((decide (s4 < ((a0.fa2.length : Int)))) = true → ∃ v7, ix a0.fa2 s4 v7 ∧ ∃ v8, JZ v7 v8 ∧ (((!(v8)) = true → Q 6) ∧ ((!(v8)) = false → X4 ((IntKind.i64.wrap (s4 + 1)))))) ∧ ((decide (s4 < ((a0.fa2.length : Int)))) = false → J1 (())))) 0))) ∧ (a1 = false → J1 (()))))
def Jq (a0 : Qq) (a1 : Bool) (a2 : Bool) (r : Int) : Prop := Up a0 a1 a2 fun x => r = x
theorem BH {a0 : Qq} {a1 : Bool} {a2 : Bool} {r : Int} (h : Jq a0 a1 a2 r) : Qp Tryz.prog 53 [.agg (Zi a0), .c (.v (.bool a1)), .c (.v (.bool a2))] [.c (.p (.v (.int .i64 r)))] [] := by
  refine Qn tb Tryz.func53 Z (by kernel_rfl) Z Z (Nat.le_of_ble_eq_true Z) Z ?_;intro E;unfold Jq Up at h;refine Z3 (fun Q hQ => ?_);refine tD Z ?_;refine Z2 (fun (p1 : Unit) => (⟨[(2, .c (.p (.v (.bool a2)))), (3, .c (.ptr (3, 0) 0 0))], [((3, 0), some (.box (List.map CV.p (Zi a0))))]⟩ : St)) h (fun p1 h => ?_) (fun J1 L1 hL1 h => ?_)
  · refine Z2 (fun (p9 : Unit) => (⟨[], []⟩ : St)) h (fun p9 h => ?_) (fun J9 L9 hL9 h => ?_)
    · refine tD Z ?_;obtain rfl := h;exact Qf (hQ _ _ (Zq Z Z))
    · refine tD Z ?_;refine cn h (fun h => ?_) fun h => ?_
      · refine sk fun L10 hL10 => ?_;refine tk fun L hL => ?_;refine dN 2 Z ?_;refine u0 QA ?_;obtain ⟨v11, hv11, h⟩ := h;refine u0 (QR (Kx hv11)) ?_;refine dN 1 Z ?_;refine rt (hL _ ?_);refine cn h (fun h => ?_) fun h => ?_
        · refine tD Z ?_;obtain rfl := h;exact Qf (hQ _ _ (Zq Z Z))
        · refine Qh (hL10 _ ?_);refine tD Z ?_;refine Qr ?_;refine Zn (fun (s12 : Int) => (⟨[(3, .c (.ptr (3, 0) 0 0)), (8, .c (.p (.v (.int .i64 s12))))], [((3, 0), some (.box (List.map CV.p (Zi a0))))]⟩ : St)) h QC.fit (fun X12 L12 hL12 s12 h => ?_);refine sk fun L13 hL13 => ?_;refine tk fun L hL => ?_;refine dN 3 Z ?_;refine u0 QA ?_;refine dN 1 Z ?_;refine rt (hL _ ?_);refine cn h (fun h => ?_) fun h => ?_
          · refine Qh (hL13 _ ?_);refine sk fun L14 hL14 => ?_;refine Qr ?_;refine tk fun L hL => ?_;refine dN 3 Z ?_;obtain ⟨v15, hv15, h⟩ := h;refine u0 (QB hv15) ?_;refine dN 1 Z ?_;obtain ⟨v16, hv16, h⟩ := h;refine u0 (QR (ZF hv16)) ?_;refine dN 1 Z ?_;refine rt (hL _ ?_);refine tD Z ?_;refine cn h (fun h => ?_) fun h => ?_
            · refine tD Z ?_;obtain rfl := h;exact Qf (hQ _ _ (Zq Z Z))
            · refine Qh (hL14 _ ?_);refine tE Z (hL12 _ _ h QC.fit)
          · refine QP (hL9 _ _ h QC.fit)
      · refine Qh (hL9 _ _ h QC.fit)
  · refine tD Z ?_;refine cn h (fun h => ?_) fun h => ?_
    · refine sk fun L2 hL2 => ?_;refine tk fun L hL => ?_;refine dN 2 Z ?_;refine u0 QA ?_;obtain ⟨v3, hv3, h⟩ := h;refine u0 (QR (Kx hv3)) ?_;refine dN 1 Z ?_;refine rt (hL _ ?_);refine cn h (fun h => ?_) fun h => ?_
      · refine tD Z ?_;obtain rfl := h;exact Qf (hQ _ _ (Zq Z Z))
      · refine Qh (hL2 _ ?_);refine tD Z ?_;refine Qr ?_;refine Zn (fun (s4 : Int) => (⟨[(2, .c (.p (.v (.bool a2)))), (3, .c (.ptr (3, 0) 0 0)), (7, .c (.p (.v (.int .i64 s4))))], [((3, 0), some (.box (List.map CV.p (Zi a0))))]⟩ : St)) h QC.fit (fun X4 L4 hL4 s4 h => ?_);refine sk fun L5 hL5 => ?_;refine tk fun L hL => ?_;refine dN 3 Z ?_;refine u0 QA ?_;refine dN 1 Z ?_;refine rt (hL _ ?_);refine cn h (fun h => ?_) fun h => ?_
        · refine Qh (hL5 _ ?_);refine sk fun L6 hL6 => ?_;refine Qr ?_;refine tk fun L hL => ?_;refine dN 3 Z ?_;obtain ⟨v7, hv7, h⟩ := h;refine u0 (QB hv7) ?_;refine dN 1 Z ?_;obtain ⟨v8, hv8, h⟩ := h;refine u0 (QR (Uo hv8)) ?_;refine dN 1 Z ?_;refine rt (hL _ ?_);refine cn h (fun h => ?_) fun h => ?_
          · refine tD Z ?_;obtain rfl := h;exact Qf (hQ _ _ (Zq Z Z))
          · refine Qh (hL6 _ ?_);refine tE Z (hL4 _ _ h QC.fit)
        · refine QP (hL1 _ _ h QC.fit)
    · refine Qh (hL1 _ _ h QC.fit)
def Xa (a0 : Qu) (Q : Int → Prop) : Prop :=
 ∃ v2, Zw a0.fo 1 7 v2 ∧ (((!(v2)) = true → Q 8) ∧ ((!(v2)) = false → ∃ (v3 : Bool), (((bif (a0.fo == 2) then true else (a0.fo == 6))) = true → Kw a0.fa1 v3) ∧ ((((bif (bif (a0.fo == 2) then true else (a0.fo == 6)) then !(v3) else false)) = true → Q 7) ∧ (((bif (bif (a0.fo == 2) then true else (a0.fo == 6)) then !(v3) else false)) = false → ∃ (v4 : Bool), (((a0.fo == 5)) = true → Zw a0.f0 0 32 v4) ∧ ((((bif (a0.fo == 5) then !(v4) else false)) = true → Q 5) ∧ (((bif (a0.fo == 5) then !(v4) else false)) = false → ∃ (v5 : Bool), (((a0.fo == 7)) = true → Zw a0.fb9 1 1000000 v5) ∧ ∃ (v6 : Bool), ((((a0.fo == 7) && !(!(v5)))) = true → Zw a0.fc0 0 a0.fb9 v6) ∧ ((((bif (a0.fo == 7) then (bif !(v5) then true else !(v6)) else false)) = true → Q 5) ∧ (((bif (a0.fo == 7) then (bif !(v5) then true else !(v6)) else false)) = false → ((((bif (bif (bif !((bif (a0.fo == 2) then true else (a0.fo == 6))) then (!(a0.fa1.toList == ((⟨#[]⟩ : ByteArray)).toList)) else false) then true else (bif (a0.fo != 5) then (a0.f0 != 0) else false)) then true else (bif (a0.fo != 7) then (bif (a0.fc0 != 0) then true else (a0.fb9 != 0)) else false))) = true → Q 18) ∧ (((bif (bif (bif !((bif (a0.fo == 2) then true else (a0.fo == 6))) then (!(a0.fa1.toList == ((⟨#[]⟩ : ByteArray)).toList)) else false) then true else (bif (a0.fo != 5) then (a0.f0 != 0) else false)) then true else (bif (a0.fo != 7) then (bif (a0.fc0 != 0) then true else (a0.fb9 != 0)) else false))) = false → Q 0))))))))))
def Ke (a0 : Qu) (r : Int) : Prop := Xa a0 fun x => r = x
theorem Av {a0 : Qu} {r : Int} (h : Ke a0 r) : Qp Tryz.prog 55 [.agg (Wl a0)] [.c (.p (.v (.int .i64 r)))] [] := by
  refine Qn tb Tryz.func55 Z (by kernel_rfl) Z Z (Nat.le_of_ble_eq_true Z) Z ?_;intro E;unfold Ke Xa at h;refine Z3 (fun Q hQ => ?_);refine tD Z ?_;refine tk fun L hL => ?_;refine dN 4 Z ?_;refine Q2 Z Z Q4 (fun hg => Q7 Z Z Z Z Z Z Z Z Z) ?_;refine Q2 Z Z Q4 (fun hg => Q3 (Qa hg) Z Z Z Z Z) ?_;refine Q2 Z Z Q4 (fun hg => Qz (c := (a0.fo == 6)) (Qa hg) Z Z Z Z) ?_;refine u0 (Qm (v := .bool true) (w := .bool ((a0.fo == 6))) Z Z Q4 Z Qw) ?_;refine dN 1 Z ?_;refine rt (hL _ ?_);refine sk fun L1 hL1 => ?_;refine Qr ?_;refine tk fun L hL => ?_;refine dN 2 Z ?_;obtain ⟨v2, hv2, h⟩ := h;refine u0 (QR (Kv hv2)) ?_;refine dN 2 Z ?_;refine rt (hL _ ?_);refine cn h (fun h => ?_) fun h => ?_
  · refine tD Z ?_;obtain rfl := h;exact Qf (hQ _ _ (Zq Z Z))
  · refine tk fun L hL => ?_;refine dN 2 Z ?_;refine Q2 Z Z Q8 (fun hg => Q7 Z Z Z Z Z Z Z Z Z) ?_;refine Q2 Z Z Q8 (fun hg => Q3 (Qa hg) Z Z Z Z Z) ?_;obtain ⟨v3, hv3, h⟩ := h;refine Q2 Z Z Q8 (fun hg => QN (VB (hv3 hg)) Z Z (.cons (Zd hg (.c (.p _))) .nil) Z Z Z) ?_;refine Q2 Z Z Q8 (fun hg => QY (Qa hg) Z Z) ?_;refine u0 (Ql (v := .bool (!(v3))) (w := .bool false) Z Z Q8 Z Qw) ?_;refine dN 1 Z ?_;refine rt (hL _ ?_);refine cn h (fun h => ?_) fun h => ?_
    · refine tD Z ?_;obtain rfl := h;exact Qf (hQ _ _ (Zq Z Z))
    · refine tk fun L hL => ?_;refine dN 4 Z ?_;refine Q2 Z Z Q8 (fun hg => Q7 Z Z Z Z Z Z Z Z Z) ?_;refine Q2 Z Z Q8 (fun hg => Q3 (Qa hg) Z Z Z Z Z) ?_;obtain ⟨v4, hv4, h⟩ := h;refine Q2 Z Z Q8 (fun hg => QN (Kv (hv4 hg)) Z Z (.cons (Zd hg (.c (.p _))) (.cons (.c (.p _)) (.cons (.c (.p _)) .nil))) Z Z Z) ?_;refine Q2 Z Z Q8 (fun hg => QY (Qa hg) Z Z) ?_;refine u0 (Ql (v := .bool (!(v4))) (w := .bool false) Z Z Q8 Z Qw) ?_;refine dN 1 Z ?_;refine rt (hL _ ?_);refine cn h (fun h => ?_) fun h => ?_
      · refine tD Z ?_;obtain rfl := h;exact Qf (hQ _ _ (Zq Z Z))
      · refine tk fun L hL => ?_;refine dN 4 Z ?_;refine Q2 Z Z Q8 (fun hg => Q7 Z Z Z Z Z Z Z Z Z) ?_;refine Q2 Z Z Q8 (fun hg => Q3 (Qa hg) Z Z Z Z Z) ?_;obtain ⟨v5, hv5, h⟩ := h;refine Q2 Z Z Q8 (fun hg => QN (Kv (hv5 hg)) Z Z (.cons (Zd hg (.c (.p _))) (.cons (.c (.p _)) (.cons (.c (.p _)) .nil))) Z Z Z) ?_;refine Q2 Z Z Q8 (fun hg => QY (Qa hg) Z Z) ?_;refine Q2 Z Z Q8 (fun hg => Qc (Qa hg) Z) ?_;refine QD Z Z K5 (fun hg => Q7 Z Z Z Z Z Z Z Z Z) ?_;refine QD Z Z K5 (fun hg => Q3 (Qa hg) Z Z Z Z Z) ?_;refine QD Z Z K5 (fun hg => Q7 Z Z Z Z Z Z Z Z Z) ?_;refine QD Z Z K5 (fun hg => Q3 (Qa hg) Z Z Z Z Z) ?_;obtain ⟨v6, hv6, h⟩ := h;refine QD Z Z K5 (fun hg => QN (Kv (hv6 hg)) Z Z (.cons (Zd hg (.c (.p _))) (.cons (.c (.p _)) (.cons (Zd hg (.c (.p _))) .nil))) Z Z Z) ?_;refine QD Z Z K5 (fun hg => QY (Qa hg) Z Z) ?_;refine Q2 Z Z Q8 (fun hg => Qm (v := .bool true) (w := .bool (!(v6))) (Qa hg) Z (UQ hg) Z Qw Z Z Z) ?_;refine u0 (Ql (v := .bool ((bif !(v5) then true else !(v6)))) (w := .bool false) Z Z Q8 Z Qw) ?_
        refine dN 1 Z ?_;refine rt (hL _ ?_);refine QQ (st' := ⟨[(1, .c (.ptr (1, 0) 0 0)), (3, .c (.p (.v (.bool ((bif (a0.fo == 2) then true else (a0.fo == 6))))))), (35, .c (.p (.v (.bool ((bif (a0.fo == 7) then (bif !(v5) then true else !(v6)) else false))))))], [((1, 0), some (.box (List.map CV.p (Wl a0))))]⟩) QC.fit ?_;refine cn h (fun h => ?_) fun h => ?_
        · refine tD Z ?_;obtain rfl := h;exact Qf (hQ _ _ (Zq Z Z))
        · refine tk fun L hL => ?_;refine dN 3 Z ?_;refine Q2 Z Z Q8 (fun hg => Q7 Z Z Z Z Z Z Z Z Z) ?_;refine Q2 Z Z Q8 (fun hg => Q3 (Qa hg) Z Z Z Z Z) ?_;refine Q2 Z Z Q8 (fun hg => Vt (c := (!(a0.fa1.toList == ((⟨#[]⟩ : ByteArray)).toList))) (Qa hg) Z Z Z Z) ?_;refine u0 (Ql (v := .bool ((!(a0.fa1.toList == ((⟨#[]⟩ : ByteArray)).toList)))) (w := .bool false) Z Z Q8 Z Qw) ?_;refine dN 1 Z ?_;refine Q2 Z Z Q4 (fun hg => Q7 Z Z Z Z Z Z Z Z Z) ?_;refine Q2 Z Z Q4 (fun hg => Q3 (Qa hg) Z Z Z Z Z) ?_;refine Q2 Z Z Q4 (fun hg => Qz (c := (a0.fo != 5)) (Qa hg) Z Z Z Z) ?_;refine Q2 Z Z Q4 (fun hg => Qc (Qa hg) Z) ?_;refine QD Z Z QL (fun hg => Q7 Z Z Z Z Z Z Z Z Z) ?_;refine QD Z Z QL (fun hg => Q3 (Qa hg) Z Z Z Z Z) ?_;refine QD Z Z QL (fun hg => Qz (c := (a0.f0 != 0)) (Qa hg) Z Z Z Z) ?_;refine Q2 Z Z Q4 (fun hg => Ql (v := .bool ((a0.f0 != 0))) (w := .bool false) (Qa hg) Z (Jy hg) Z Qw Z Z Z) ?_;refine u0 (Qm (v := .bool true) (w := .bool ((bif (a0.fo != 5) then (a0.f0 != 0) else false))) Z Z Q4 Z Qw) ?_
          refine dN 1 Z ?_;refine Q2 Z Z Q4 (fun hg => Q7 Z Z Z Z Z Z Z Z Z) ?_;refine Q2 Z Z Q4 (fun hg => Q3 (Qa hg) Z Z Z Z Z) ?_;refine Q2 Z Z Q4 (fun hg => Qz (c := (a0.fo != 7)) (Qa hg) Z Z Z Z) ?_;refine Q2 Z Z Q4 (fun hg => Qc (Qa hg) Z) ?_;refine QD Z Z QL (fun hg => Q7 Z Z Z Z Z Z Z Z Z) ?_;refine QD Z Z QL (fun hg => Q3 (Qa hg) Z Z Z Z Z) ?_;refine QD Z Z QL (fun hg => Qz (c := (a0.fc0 != 0)) (Qa hg) Z Z Z Z) ?_;refine QD Z Z QL (fun hg => Qc (Qa hg) Z) ?_;refine QD Z Z K5 (fun hg => Q7 Z Z Z Z Z Z Z Z Z) ?_;refine QD Z Z K5 (fun hg => Q3 (Qa hg) Z Z Z Z Z) ?_;refine QD Z Z K5 (fun hg => Qz (c := (a0.fb9 != 0)) (Qa hg) Z Z Z Z) ?_;refine QD Z Z QL (fun hg => Qm (v := .bool true) (w := .bool ((a0.fb9 != 0))) (Qa hg) Z (UQ hg) Z Qw Z Z Z) ?_;refine Q2 Z Z Q4 (fun hg => Ql (v := .bool ((bif (a0.fc0 != 0) then true else (a0.fb9 != 0)))) (w := .bool false) (Qa hg) Z (Jy hg) Z Qw Z Z Z) ?_;refine u0 (Qm (v := .bool true) (w := .bool ((bif (a0.fo != 7) then (bif (a0.fc0 != 0) then true else (a0.fb9 != 0)) else false))) Z Z Q4 Z Qw) ?_
          refine dN 1 Z ?_;refine rt (hL _ ?_);refine cn h (fun h => ?_) fun h => ?_
          · refine tD Z ?_;obtain rfl := h;exact Qf (hQ _ _ (Zq Z Z))
          · refine Qh (hL1 _ ?_);refine QQ (st' := ⟨[], []⟩) QC.fit ?_;refine tD Z ?_;obtain rfl := h;exact Qf (hQ _ _ (Zq Z Z))
def W4 (a0 : Qq) (Q : Int → Prop) : Prop :=
 ∃ v2, Zp a0.fo 1 17 v2 ∧ (((!(v2)) = true → Q 8) ∧ ((!(v2)) = false → ∃ v3, YH a0.fo v3 ∧ ∃ (v5 : Bool), (v3.fe0 = true → JZ a0.fb7 v5) ∧ ∃ (v6 : Bool), (((!((bif v3.fe0 then !(v5) else false)) && v3.fe1)) = true → JZ a0.fj v6) ∧ ((((bif (bif v3.fe0 then !(v5) else false) then true else (bif v3.fe1 then !(v6) else false))) = true → Q 6) ∧ (((bif (bif v3.fe0 then !(v5) else false) then true else (bif v3.fe1 then !(v6) else false))) = false → ∃ v8, Jq a0 v3.fe2 false v8 ∧ ((((v8 != 0)) = true → Q v8) ∧ (((v8 != 0)) = false → jn (fun (p9 : Unit) => ∃ v12, Jq a0 false v3.fe4 v12 ∧ ((((v12 != 0)) = true → Q v12) ∧ (((v12 != 0)) = false → ((((bif v3.fe5 then decide (((a0.fb5.length : Int)) > 64) else false)) = true → Q 11) ∧ (((bif v3.fe5 then decide (((a0.fb5.length : Int)) > 64) else false)) = false → ∃ (v15 : Bool), (v3.fe6 = true → Zp a0.fa3 1 1048576 v15) ∧ ∃ (v16 : Bool), (((v3.fe6 && !(!(v15)))) = true → Zp a0.fb0 1 1048576 v16) ∧ ((((bif v3.fe6 then (bif !(v15) then true else !(v16)) else false)) = true → Q 5) ∧ (((bif v3.fe6 then (bif !(v15) then true else !(v16)) else false)) = false → ∃ (v18 : Bool), (v3.fe7 = true → Zp a0.fa5 0 3 v18) ∧ ∃ (v19 : Bool), (((!((bif v3.fe7 then !(v18) else false)) && v3.fe8)) = true → Zp a0.fb6 0 15 v19) ∧ ∃ (v20 : Bool), (((!((bif (bif v3.fe7 then !(v18) else false) then true else (bif v3.fe8 then !(v19) else false))) && v3.fe9)) = true → Zp a0.fa6 0 3 v20) ∧ ∃ (v21 : Bool), (((!((bif (bif (bif v3.fe7 then !(v18) else false) then true else (bif v3.fe8 then !(v19) else false)) then true else (bif v3.fe9 then !(v20) else false))) && v3.fe10)) = true → Zp a0.f0 0 32 v21) ∧ ((((bif (bif (bif (bif v3.fe7 then !(v18) else false) then true else (bif v3.fe8 then !(v19) else false)) then true else (bif v3.fe9 then !(v20) else false)) then true else (bif v3.fe10 then !(v21) else false))) = true → Q 5) ∧ (((bif (bif (bif (bif v3.fe7 then !(v18) else false) then true else (bif v3.fe8 then !(v19) else false)) then true else (bif v3.fe9 then !(v20) else false)) then true else (bif v3.fe10 then !(v21) else false))) = false → jn (fun (p22 : Unit) => ((((bif v3.fe12 then decide (((a0.fb4.length : Int)) > 65536) else false)) = true → Q 11) ∧ (((bif v3.fe12 then decide (((a0.fb4.length : Int)) > 65536) else false)) = false → ((((bif (bif (bif (bif (bif (bif (bif (bif (bif (bif (bif (bif (bif !(v3.fe0) then (!(a0.fb7.toList == ((⟨#[]⟩ : ByteArray)).toList)) else false) then true else (bif !(v3.fe1) then (!(a0.fj.toList == ((⟨#[]⟩ : ByteArray)).toList)) else false)) then true else (bif !(v3.fe2) then decide (((a0.fa2.length : Int)) > 0) else false)) then true else (bif !(v3.fe3) then (!((a0.fb.fo == 0) && ((a0.fb.fg == 0) && ((a0.fb.fq == 0) && ((a0.fb.fu == 0) && true))))) else false)) then true else (bif !(v3.fe4) then decide (((a0.f8.length : Int)) > 0) else false)) then true else (bif !(v3.fe5) then decide (((a0.fb5.length : Int)) > 0) else false)) then true else (bif !(v3.fe6) then (bif (a0.fa3 != 0) then true else (a0.fb0 != 0)) else false)) then true else (bif !(v3.fe7) then (a0.fa5 != 0) else false)) then true else (bif !(v3.fe8) then (a0.fb6 != 0) else false)) then true else (bif !(v3.fe9) then (a0.fa6 != 0) else false)) then true else (bif !(v3.fe10) then (a0.f0 != 0) else false)) then true else (bif !(v3.fe11) then (!((a0.fv.fo == 0) && ((a0.fv.fa1.toList == ByteArray.empty.toList) && ((a0.fv.f0 == 0) && ((a0.fv.fc0 == 0) && ((a0.fv.fb9 == 0) && true)))))) else false)) then true else (bif !(v3.fe12) then decide (((a0.fb4.length : Int)) > 0) else false))) = true → Q 18) ∧ (((bif (bif (bif (bif (bif (bif (bif (bif (bif (bif (bif (bif (bif !(v3.fe0) then (!(a0.fb7.toList == ((⟨#[]⟩ : ByteArray)).toList)) else false) then true else (bif !(v3.fe1) then (!(a0.fj.toList == ((⟨#[]⟩ : ByteArray)).toList)) else false)) then true else (bif !(v3.fe2) then decide (((a0.fa2.length : Int)) > 0) else false)) then true else (bif !(v3.fe3) then (!((a0.fb.fo == 0) && ((a0.fb.fg == 0) && ((a0.fb.fq == 0) && ((a0.fb.fu == 0) && true))))) else false)) then true else (bif !(v3.fe4) then decide (((a0.f8.length : Int)) > 0) else false)) then true else (bif !(v3.fe5) then decide (((a0.fb5.length : Int)) > 0) else false)) then true else (bif !(v3.fe6) then (bif (a0.fa3 != 0) then true else (a0.fb0 != 0)) else false)) then true else (bif !(v3.fe7) then (a0.fa5 != 0) else false)) then true else (bif !(v3.fe8) then (a0.fb6 != 0) else false)) then true else (bif !(v3.fe9) then (a0.fa6 != 0) else false)) then true else (bif !(v3.fe10) then (a0.f0 != 0) else false)) then true else (bif !(v3.fe11) then (!((a0.fv.fo == 0) && ((a0.fv.fa1.toList == ByteArray.empty.toList) && ((a0.fv.f0 == 0) && ((a0.fv.fc0 == 0) && ((a0.fv.fb9 == 0) && true)))))) else false)) then true else (bif !(v3.fe12) then decide (((a0.fb4.length : Int)) > 0) else false))) = false → Q 0))))) (fun (J22 : Unit → Prop) => ((v3.fe11 = true → ∃ v23, Ke a0.fv v23 ∧ ((((v23 != 0)) = true → Q v23) ∧ (((v23 != 0)) = false → J22 (())))) ∧ (v3.fe11 = false → J22 (()))))))))))))) (fun (J9 : Unit → Prop) => ((v3.fe3 = true → ∃ v10, Zo a0.fb v10 ∧ ((((v10 != 0)) = true → Q v10) ∧ (((v10 != 0)) = false → J9 (())))) ∧ (v3.fe3 = false → J9 (()))))))))))
def Vf (a0 : Qq) (r : Int) : Prop := W4 a0 fun x => r = x
theorem DI {a0 : Qq} {r : Int} (h : Vf a0 r) : Qp Tryz.prog 34 [.agg (Zi a0)] [.c (.p (.v (.int .i64 r)))] [] := by
  refine Qn tb Tryz.func34 Z (by kernel_rfl) Z Z (Nat.le_of_ble_eq_true Z) Z ?_;intro E;unfold Vf W4 at h;refine Z3 (fun Q hQ => ?_);refine tD Z ?_;refine sk fun L1 hL1 => ?_;refine tk fun L hL => ?_;refine dN 2 Z ?_;obtain ⟨v2, hv2, h⟩ := h;refine u0 (QR (Kx hv2)) ?_;refine dN 1 Z ?_;refine rt (hL _ ?_);refine cn h (fun h => ?_) fun h => ?_
  · refine tD Z ?_;obtain rfl := h;exact Qf (hQ _ _ (Zq Z Z))
  · refine Qh (hL1 _ ?_);refine tk fun L hL => ?_;refine dN 2 Z ?_;obtain ⟨v3, hv3, h⟩ := h;refine u0 (QR (H5 hv3)) ?_;refine dN 2 Z ?_;refine rt (hL _ ?_);refine sk fun L4 hL4 => ?_;refine tk fun L hL => ?_;refine u0 (QU (j := 0) Z Z Z Z (by decide) Z Z Z Z Z Z) ?_;refine dN 2 Z ?_;refine Q2 Z Z Q8 (fun hg => Q7 Z Z Z Z Z Z Z Z Z) ?_;refine Q2 Z Z Q8 (fun hg => Q3 (Qa hg) Z Z Z Z Z) ?_;obtain ⟨v5, hv5, h⟩ := h;refine Q2 Z Z Q8 (fun hg => QN (Uo (hv5 hg)) Z Z (.cons (Zd hg (.c (.p _))) .nil) Z Z Z) ?_;refine Q2 Z Z Q8 (fun hg => QY (Qa hg) Z Z) ?_;refine u0 (Ql (v := .bool (!(v5))) (w := .bool false) Z Z Q8 Z Qw) ?_;refine dN 1 Z ?_;refine Q2 Z Z Q4 (fun hg => QU (j := 1) Z Z Z Z (by decide) Z Z Z Z Z Z) ?_;refine Q2 Z Z Q4 (fun hg => Q3 (Qa hg) Z Z Z Z Z) ?_;refine Q2 Z Z Q4 (fun hg => Qc (Qa hg) Z) ?_;refine QD Z Z QL (fun hg => Q7 Z Z Z Z Z Z Z Z Z) ?_;refine QD Z Z QL (fun hg => Q3 (Qa hg) Z Z Z Z Z) ?_;obtain ⟨v6, hv6, h⟩ := h;refine QD Z Z QL (fun hg => QN (Uo (hv6 hg)) Z Z (.cons (Zd hg (.c (.p _))) .nil) Z Z Z) ?_
    refine QD Z Z QL (fun hg => QY (Qa hg) Z Z) ?_;refine Q2 Z Z Q4 (fun hg => Ql (v := .bool (!(v6))) (w := .bool false) (Qa hg) Z (Jy hg) Z Qw Z Z Z) ?_;refine u0 (Qm (v := .bool true) (w := .bool ((bif v3.fe1 then !(v6) else false))) Z Z Q4 Z Qw) ?_;refine rt (hL _ ?_);refine cn h (fun h => ?_) fun h => ?_
    · refine tD Z ?_;obtain rfl := h;exact Qf (hQ _ _ (Zq Z Z))
    · refine Qh (hL4 _ ?_);refine QQ (st' := ⟨[(1, .c (.ptr (1, 0) 0 0)), (3, .c (.ptr (3, 0) 0 0))], [((1, 0), some (.box (List.map CV.p (Zi a0)))), ((3, 0), some (.box (List.map CV.p (Ye v3))))]⟩) QC.fit ?_;refine sk fun L7 hL7 => ?_;refine tk fun L hL => ?_;refine dN 1 Z ?_;refine u0 (QU (j := 2) Z Z Z Z (by decide) Z Z Z Z Z Z) ?_;refine dN 1 Z ?_;obtain ⟨v8, hv8, h⟩ := h;refine u0 (QR (BH hv8)) ?_;refine dN 1 Z ?_;refine rt (hL _ ?_);refine tD Z ?_;refine cn h (fun h => ?_) fun h => ?_
      · refine tD Z ?_;obtain rfl := h;exact Qf (hQ _ _ (Zq Z Z))
      · refine Qh (hL7 _ ?_);refine Z2 (fun (p9 : Unit) => (⟨[(1, .c (.ptr (1, 0) 0 0)), (3, .c (.ptr (3, 0) 0 0))], [((1, 0), some (.box (List.map CV.p (Zi a0)))), ((3, 0), some (.box (List.map CV.p (Ye v3))))]⟩ : St)) h (fun p9 h => ?_) (fun J9 L9 hL9 h => ?_)
        · refine sk fun L11 hL11 => ?_;refine tk fun L hL => ?_;refine dN 1 Z ?_;refine u0 (QU (j := 4) Z Z Z Z (by decide) Z Z Z Z Z Z) ?_;refine dN 1 Z ?_;obtain ⟨v12, hv12, h⟩ := h;refine u0 (QR (BH hv12)) ?_;refine dN 1 Z ?_;refine rt (hL _ ?_);refine tD Z ?_;refine cn h (fun h => ?_) fun h => ?_
          · refine tD Z ?_;obtain rfl := h;exact Qf (hQ _ _ (Zq Z Z))
          · refine Qh (hL11 _ ?_);refine sk fun L13 hL13 => ?_;refine tk fun L hL => ?_;refine u0 (QU (j := 5) Z Z Z Z (by decide) Z Z Z Z Z Z) ?_;refine dN 2 Z ?_;refine Q2 Z Z Q8 (fun hg => Q7 Z Z Z Z Z Z Z Z Z) ?_;refine Q2 Z Z Q8 (fun hg => Q3 (Qa hg) Z Z Z Z Z) ?_;refine Q2 Z Z Q8 (fun hg => QA (Qa hg) Z Z Z) ?_;refine Q2 Z Z Q8 (fun hg => Qz (c := decide (((a0.fb5.length : Int)) > 64)) (Qa hg) Z Z Z Z) ?_;refine u0 (Ql (v := .bool (decide (((a0.fb5.length : Int)) > 64))) (w := .bool false) Z Z Q8 Z Qw) ?_;refine rt (hL _ ?_);refine cn h (fun h => ?_) fun h => ?_
            · refine tD Z ?_;obtain rfl := h;exact Qf (hQ _ _ (Zq Z Z))
            · refine Qh (hL13 _ ?_);refine QQ (st' := ⟨[(1, .c (.ptr (1, 0) 0 0)), (3, .c (.ptr (3, 0) 0 0))], [((1, 0), some (.box (List.map CV.p (Zi a0)))), ((3, 0), some (.box (List.map CV.p (Ye v3))))]⟩) QC.fit ?_;refine sk fun L14 hL14 => ?_;refine tk fun L hL => ?_;refine u0 (QU (j := 6) Z Z Z Z (by decide) Z Z Z Z Z Z) ?_;refine dN 2 Z ?_;refine Q2 Z Z Q8 (fun hg => Q7 Z Z Z Z Z Z Z Z Z) ?_;refine Q2 Z Z Q8 (fun hg => Q3 (Qa hg) Z Z Z Z Z) ?_;obtain ⟨v15, hv15, h⟩ := h;refine Q2 Z Z Q8 (fun hg => QN (Kx (hv15 hg)) Z Z (.cons (Zd hg (.c (.p _))) (.cons (.c (.p _)) (.cons (.c (.p _)) .nil))) Z Z Z) ?_;refine Q2 Z Z Q8 (fun hg => QY (Qa hg) Z Z) ?_;refine Q2 Z Z Q8 (fun hg => Qc (Qa hg) Z) ?_;refine QD Z Z K5 (fun hg => Q7 Z Z Z Z Z Z Z Z Z) ?_;refine QD Z Z K5 (fun hg => Q3 (Qa hg) Z Z Z Z Z) ?_;obtain ⟨v16, hv16, h⟩ := h;refine QD Z Z K5 (fun hg => QN (Kx (hv16 hg)) Z Z (.cons (Zd hg (.c (.p _))) (.cons (.c (.p _)) (.cons (.c (.p _)) .nil))) Z Z Z) ?_;refine QD Z Z K5 (fun hg => QY (Qa hg) Z Z) ?_
              refine Q2 Z Z Q8 (fun hg => Qm (v := .bool true) (w := .bool (!(v16))) (Qa hg) Z (UQ hg) Z Qw Z Z Z) ?_;refine u0 (Ql (v := .bool ((bif !(v15) then true else !(v16)))) (w := .bool false) Z Z Q8 Z Qw) ?_;refine rt (hL _ ?_);refine cn h (fun h => ?_) fun h => ?_
              · refine tD Z ?_;obtain rfl := h;exact Qf (hQ _ _ (Zq Z Z))
              · refine Qh (hL14 _ ?_);refine QQ (st' := ⟨[(1, .c (.ptr (1, 0) 0 0)), (3, .c (.ptr (3, 0) 0 0))], [((1, 0), some (.box (List.map CV.p (Zi a0)))), ((3, 0), some (.box (List.map CV.p (Ye v3))))]⟩) QC.fit ?_;refine sk fun L17 hL17 => ?_;refine tk fun L hL => ?_;refine u0 (QU (j := 7) Z Z Z Z (by decide) Z Z Z Z Z Z) ?_;refine dN 2 Z ?_;refine Q2 Z Z Q8 (fun hg => Q7 Z Z Z Z Z Z Z Z Z) ?_;refine Q2 Z Z Q8 (fun hg => Q3 (Qa hg) Z Z Z Z Z) ?_;obtain ⟨v18, hv18, h⟩ := h;refine Q2 Z Z Q8 (fun hg => QN (Kx (hv18 hg)) Z Z (.cons (Zd hg (.c (.p _))) (.cons (.c (.p _)) (.cons (.c (.p _)) .nil))) Z Z Z) ?_;refine Q2 Z Z Q8 (fun hg => QY (Qa hg) Z Z) ?_;refine u0 (Ql (v := .bool (!(v18))) (w := .bool false) Z Z Q8 Z Qw) ?_;refine dN 1 Z ?_;refine Q2 Z Z Q4 (fun hg => QU (j := 8) Z Z Z Z (by decide) Z Z Z Z Z Z) ?_;refine Q2 Z Z Q4 (fun hg => Q3 (Qa hg) Z Z Z Z Z) ?_;refine Q2 Z Z Q4 (fun hg => Qc (Qa hg) Z) ?_;refine QD Z Z QL (fun hg => Q7 Z Z Z Z Z Z Z Z Z) ?_;refine QD Z Z QL (fun hg => Q3 (Qa hg) Z Z Z Z Z) ?_
                obtain ⟨v19, hv19, h⟩ := h;refine QD Z Z QL (fun hg => QN (Kx (hv19 hg)) Z Z (.cons (Zd hg (.c (.p _))) (.cons (.c (.p _)) (.cons (.c (.p _)) .nil))) Z Z Z) ?_;refine QD Z Z QL (fun hg => QY (Qa hg) Z Z) ?_;refine Q2 Z Z Q4 (fun hg => Ql (v := .bool (!(v19))) (w := .bool false) (Qa hg) Z (Jy hg) Z Qw Z Z Z) ?_;refine u0 (Qm (v := .bool true) (w := .bool ((bif v3.fe8 then !(v19) else false))) Z Z Q4 Z Qw) ?_;refine dN 1 Z ?_;refine Q2 Z Z Q4 (fun hg => QU (j := 9) Z Z Z Z (by decide) Z Z Z Z Z Z) ?_;refine Q2 Z Z Q4 (fun hg => Q3 (Qa hg) Z Z Z Z Z) ?_;refine Q2 Z Z Q4 (fun hg => Qc (Qa hg) Z) ?_;refine QD Z Z QL (fun hg => Q7 Z Z Z Z Z Z Z Z Z) ?_;refine QD Z Z QL (fun hg => Q3 (Qa hg) Z Z Z Z Z) ?_;obtain ⟨v20, hv20, h⟩ := h;refine QD Z Z QL (fun hg => QN (Kx (hv20 hg)) Z Z (.cons (Zd hg (.c (.p _))) (.cons (.c (.p _)) (.cons (.c (.p _)) .nil))) Z Z Z) ?_;refine QD Z Z QL (fun hg => QY (Qa hg) Z Z) ?_;refine Q2 Z Z Q4 (fun hg => Ql (v := .bool (!(v20))) (w := .bool false) (Qa hg) Z (Jy hg) Z Qw Z Z Z) ?_
                refine u0 (Qm (v := .bool true) (w := .bool ((bif v3.fe9 then !(v20) else false))) Z Z Q4 Z Qw) ?_;refine dN 1 Z ?_;refine Q2 Z Z Q4 (fun hg => QU (j := 10) Z Z Z Z (by decide) Z Z Z Z Z Z) ?_;refine Q2 Z Z Q4 (fun hg => Q3 (Qa hg) Z Z Z Z Z) ?_;refine Q2 Z Z Q4 (fun hg => Qc (Qa hg) Z) ?_;refine QD Z Z QL (fun hg => Q7 Z Z Z Z Z Z Z Z Z) ?_;refine QD Z Z QL (fun hg => Q3 (Qa hg) Z Z Z Z Z) ?_;obtain ⟨v21, hv21, h⟩ := h;refine QD Z Z QL (fun hg => QN (Kx (hv21 hg)) Z Z (.cons (Zd hg (.c (.p _))) (.cons (.c (.p _)) (.cons (.c (.p _)) .nil))) Z Z Z) ?_;refine QD Z Z QL (fun hg => QY (Qa hg) Z Z) ?_;refine Q2 Z Z Q4 (fun hg => Ql (v := .bool (!(v21))) (w := .bool false) (Qa hg) Z (Jy hg) Z Qw Z Z Z) ?_;refine u0 (Qm (v := .bool true) (w := .bool ((bif v3.fe10 then !(v21) else false))) Z Z Q4 Z Qw) ?_;refine rt (hL _ ?_);refine cn h (fun h => ?_) fun h => ?_
                · refine tD Z ?_;refine QQ (st' := ⟨[(2, .c (.p (.v (.int .i64 5))))], []⟩) QC.fit ?_;obtain rfl := h;exact Qf (hQ _ _ (Zq Z Z))
                · refine Qh (hL17 _ ?_);refine QQ (st' := ⟨[(1, .c (.ptr (1, 0) 0 0)), (3, .c (.ptr (3, 0) 0 0))], [((1, 0), some (.box (List.map CV.p (Zi a0)))), ((3, 0), some (.box (List.map CV.p (Ye v3))))]⟩) QC.fit ?_;refine Z2 (fun (p22 : Unit) => (⟨[(1, .c (.ptr (1, 0) 0 0)), (3, .c (.ptr (3, 0) 0 0))], [((1, 0), some (.box (List.map CV.p (Zi a0)))), ((3, 0), some (.box (List.map CV.p (Ye v3))))]⟩ : St)) h (fun p22 h => ?_) (fun J22 L22 hL22 h => ?_)
                  · refine sk fun L24 hL24 => ?_;refine tk fun L hL => ?_;refine u0 (QU (j := 12) Z Z Z Z (by decide) Z Z Z Z Z Z) ?_;refine dN 2 Z ?_;refine Q2 Z Z Q8 (fun hg => Q7 Z Z Z Z Z Z Z Z Z) ?_;refine Q2 Z Z Q8 (fun hg => Q3 (Qa hg) Z Z Z Z Z) ?_;refine Q2 Z Z Q8 (fun hg => QA (Qa hg) Z Z Z) ?_;refine Q2 Z Z Q8 (fun hg => Qz (c := decide (((a0.fb4.length : Int)) > 65536)) (Qa hg) Z Z Z Z) ?_;refine u0 (Ql (v := .bool (decide (((a0.fb4.length : Int)) > 65536))) (w := .bool false) Z Z Q8 Z Qw) ?_;refine rt (hL _ ?_);refine cn h (fun h => ?_) fun h => ?_
                    · refine tD Z ?_;obtain rfl := h;exact Qf (hQ _ _ (Zq Z Z))
                    · refine Qh (hL24 _ ?_);refine QQ (st' := ⟨[(1, .c (.ptr (1, 0) 0 0)), (3, .c (.ptr (3, 0) 0 0))], [((1, 0), some (.box (List.map CV.p (Zi a0)))), ((3, 0), some (.box (List.map CV.p (Ye v3))))]⟩) QC.fit ?_;refine sk fun L25 hL25 => ?_;refine tk fun L hL => ?_;refine u0 (QU (j := 0) Z Z Z Z (by decide) Z Z Z Z Z Z) ?_;refine dN 3 Z ?_;refine Q2 Z Z Q8 (fun hg => Q7 Z Z Z Z Z Z Z Z Z) ?_;refine Q2 Z Z Q8 (fun hg => Q3 (Qa hg) Z Z Z Z Z) ?_;refine Q2 Z Z Q8 (fun hg => Vt (c := (!(a0.fb7.toList == ((⟨#[]⟩ : ByteArray)).toList))) (Qa hg) Z Z Z Z) ?_;refine u0 (Ql (v := .bool ((!(a0.fb7.toList == ((⟨#[]⟩ : ByteArray)).toList)))) (w := .bool false) Z Z Q8 Z Qw) ?_;refine dN 1 Z ?_;refine Q2 Z Z Q4 (fun hg => QU (j := 1) Z Z Z Z (by decide) Z Z Z Z Z Z) ?_;refine Q2 Z Z Q4 (fun hg => Q3 (Qa hg) Z Z Z Z Z) ?_;refine Q2 Z Z Q4 (fun hg => QY (Qa hg) Z Z) ?_;refine Q2 Z Z Q4 (fun hg => Qc (Qa hg) Z) ?_;refine QD Z Z QL (fun hg => Q7 Z Z Z Z Z Z Z Z Z) ?_;refine QD Z Z QL (fun hg => Q3 (Qa hg) Z Z Z Z Z) ?_
                      refine QD Z Z QL (fun hg => Vt (c := (!(a0.fj.toList == ((⟨#[]⟩ : ByteArray)).toList))) (Qa hg) Z Z Z Z) ?_;refine Q2 Z Z Q4 (fun hg => Ql (v := .bool ((!(a0.fj.toList == ((⟨#[]⟩ : ByteArray)).toList)))) (w := .bool false) (Qa hg) Z (Jy hg) Z Qw Z Z Z) ?_;refine u0 (Qm (v := .bool true) (w := .bool ((bif !(v3.fe1) then (!(a0.fj.toList == ((⟨#[]⟩ : ByteArray)).toList)) else false))) Z Z Q4 Z Qw) ?_;refine dN 1 Z ?_;refine Q2 Z Z Q4 (fun hg => QU (j := 2) Z Z Z Z (by decide) Z Z Z Z Z Z) ?_;refine Q2 Z Z Q4 (fun hg => Q3 (Qa hg) Z Z Z Z Z) ?_;refine Q2 Z Z Q4 (fun hg => QY (Qa hg) Z Z) ?_;refine Q2 Z Z Q4 (fun hg => Qc (Qa hg) Z) ?_;refine QD Z Z QL (fun hg => Q7 Z Z Z Z Z Z Z Z Z) ?_;refine QD Z Z QL (fun hg => Q3 (Qa hg) Z Z Z Z Z) ?_;refine QD Z Z QL (fun hg => QA (Qa hg) Z Z Z) ?_;refine QD Z Z QL (fun hg => Qz (c := decide (((a0.fa2.length : Int)) > 0)) (Qa hg) Z Z Z Z) ?_;refine Q2 Z Z Q4 (fun hg => Ql (v := .bool (decide (((a0.fa2.length : Int)) > 0))) (w := .bool false) (Qa hg) Z (Jy hg) Z Qw Z Z Z) ?_
                      refine u0 (Qm (v := .bool true) (w := .bool ((bif !(v3.fe2) then decide (((a0.fa2.length : Int)) > 0) else false))) Z Z Q4 Z Qw) ?_;refine dN 1 Z ?_;refine Q2 Z Z Q4 (fun hg => QU (j := 3) Z Z Z Z (by decide) Z Z Z Z Z Z) ?_;refine Q2 Z Z Q4 (fun hg => Q3 (Qa hg) Z Z Z Z Z) ?_;refine Q2 Z Z Q4 (fun hg => QY (Qa hg) Z Z) ?_;refine Q2 Z Z Q4 (fun hg => Qc (Qa hg) Z) ?_;refine QD Z Z QL (fun hg => Q7 Z Z Z Z Z Z Z Z Z) ?_;refine QD Z Z QL (fun hg => QO (Qa hg) Z Z Z Z Z Z) ?_;refine QD Z Z QL (fun hg => Wh Z Z Z Z Z Z Z) ?_;refine QD Z Z QL (fun hg => AI (us := [.int .i64 a0.fb.fo, .int .i64 a0.fb.fg, .int .i64 a0.fb.fq, .int .u64 a0.fb.fu]) (vs := [.int .i64 0, .int .i64 0, .int .i64 0, .int .u64 0]) (c := (!((a0.fb.fo == 0) && ((a0.fb.fg == 0) && ((a0.fb.fq == 0) && ((a0.fb.fu == 0) && true)))))) (Qa hg) (Qa hg) (by kernel_rfl) Z Z Z Z Z Z) ?_;refine Q2 Z Z Q4 (fun hg => Ql (v := .bool ((!((a0.fb.fo == 0) && ((a0.fb.fg == 0) && ((a0.fb.fq == 0) && ((a0.fb.fu == 0) && true))))))) (w := .bool false) (Qa hg) Z (Jy hg) Z Qw Z Z Z) ?_
                      refine u0 (Qm (v := .bool true) (w := .bool ((bif !(v3.fe3) then (!((a0.fb.fo == 0) && ((a0.fb.fg == 0) && ((a0.fb.fq == 0) && ((a0.fb.fu == 0) && true))))) else false))) Z Z Q4 Z Qw) ?_;refine dN 1 Z ?_;refine Q2 Z Z Q4 (fun hg => QU (j := 4) Z Z Z Z (by decide) Z Z Z Z Z Z) ?_;refine Q2 Z Z Q4 (fun hg => Q3 (Qa hg) Z Z Z Z Z) ?_;refine Q2 Z Z Q4 (fun hg => QY (Qa hg) Z Z) ?_;refine Q2 Z Z Q4 (fun hg => Qc (Qa hg) Z) ?_;refine QD Z Z QL (fun hg => Q7 Z Z Z Z Z Z Z Z Z) ?_;refine QD Z Z QL (fun hg => Q3 (Qa hg) Z Z Z Z Z) ?_;refine QD Z Z QL (fun hg => QA (Qa hg) Z Z Z) ?_;refine QD Z Z QL (fun hg => Qz (c := decide (((a0.f8.length : Int)) > 0)) (Qa hg) Z Z Z Z) ?_;refine Q2 Z Z Q4 (fun hg => Ql (v := .bool (decide (((a0.f8.length : Int)) > 0))) (w := .bool false) (Qa hg) Z (Jy hg) Z Qw Z Z Z) ?_;refine u0 (Qm (v := .bool true) (w := .bool ((bif !(v3.fe4) then decide (((a0.f8.length : Int)) > 0) else false))) Z Z Q4 Z Qw) ?_;refine dN 1 Z ?_
                      refine Q2 Z Z Q4 (fun hg => QU (j := 5) Z Z Z Z (by decide) Z Z Z Z Z Z) ?_;refine Q2 Z Z Q4 (fun hg => Q3 (Qa hg) Z Z Z Z Z) ?_;refine Q2 Z Z Q4 (fun hg => QY (Qa hg) Z Z) ?_;refine Q2 Z Z Q4 (fun hg => Qc (Qa hg) Z) ?_;refine QD Z Z QL (fun hg => Q7 Z Z Z Z Z Z Z Z Z) ?_;refine QD Z Z QL (fun hg => Q3 (Qa hg) Z Z Z Z Z) ?_;refine QD Z Z QL (fun hg => QA (Qa hg) Z Z Z) ?_;refine QD Z Z QL (fun hg => Qz (c := decide (((a0.fb5.length : Int)) > 0)) (Qa hg) Z Z Z Z) ?_;refine Q2 Z Z Q4 (fun hg => Ql (v := .bool (decide (((a0.fb5.length : Int)) > 0))) (w := .bool false) (Qa hg) Z (Jy hg) Z Qw Z Z Z) ?_;refine u0 (Qm (v := .bool true) (w := .bool ((bif !(v3.fe5) then decide (((a0.fb5.length : Int)) > 0) else false))) Z Z Q4 Z Qw) ?_;refine dN 1 Z ?_;refine Q2 Z Z Q4 (fun hg => QU (j := 6) Z Z Z Z (by decide) Z Z Z Z Z Z) ?_;refine Q2 Z Z Q4 (fun hg => Q3 (Qa hg) Z Z Z Z Z) ?_;refine Q2 Z Z Q4 (fun hg => QY (Qa hg) Z Z) ?_;refine Q2 Z Z Q4 (fun hg => Qc (Qa hg) Z) ?_
                      refine QD Z Z QL (fun hg => Q7 Z Z Z Z Z Z Z Z Z) ?_;refine QD Z Z QL (fun hg => Q3 (Qa hg) Z Z Z Z Z) ?_;refine QD Z Z QL (fun hg => Qz (c := (a0.fa3 != 0)) (Qa hg) Z Z Z Z) ?_;refine QD Z Z QL (fun hg => Qc (Qa hg) Z) ?_;refine QD Z Z K5 (fun hg => Q7 Z Z Z Z Z Z Z Z Z) ?_;refine QD Z Z K5 (fun hg => Q3 (Qa hg) Z Z Z Z Z) ?_;refine QD Z Z K5 (fun hg => Qz (c := (a0.fb0 != 0)) (Qa hg) Z Z Z Z) ?_;refine QD Z Z QL (fun hg => Qm (v := .bool true) (w := .bool ((a0.fb0 != 0))) (Qa hg) Z (UQ hg) Z Qw Z Z Z) ?_;refine Q2 Z Z Q4 (fun hg => Ql (v := .bool ((bif (a0.fa3 != 0) then true else (a0.fb0 != 0)))) (w := .bool false) (Qa hg) Z (Jy hg) Z Qw Z Z Z) ?_;refine u0 (Qm (v := .bool true) (w := .bool ((bif !(v3.fe6) then (bif (a0.fa3 != 0) then true else (a0.fb0 != 0)) else false))) Z Z Q4 Z Qw) ?_;refine dN 1 Z ?_;refine Q2 Z Z Q4 (fun hg => QU (j := 7) Z Z Z Z (by decide) Z Z Z Z Z Z) ?_;refine Q2 Z Z Q4 (fun hg => Q3 (Qa hg) Z Z Z Z Z) ?_
                      refine Q2 Z Z Q4 (fun hg => QY (Qa hg) Z Z) ?_;refine Q2 Z Z Q4 (fun hg => Qc (Qa hg) Z) ?_;refine QD Z Z QL (fun hg => Q7 Z Z Z Z Z Z Z Z Z) ?_;refine QD Z Z QL (fun hg => Q3 (Qa hg) Z Z Z Z Z) ?_;refine QD Z Z QL (fun hg => Qz (c := (a0.fa5 != 0)) (Qa hg) Z Z Z Z) ?_;refine Q2 Z Z Q4 (fun hg => Ql (v := .bool ((a0.fa5 != 0))) (w := .bool false) (Qa hg) Z (Jy hg) Z Qw Z Z Z) ?_;refine u0 (Qm (v := .bool true) (w := .bool ((bif !(v3.fe7) then (a0.fa5 != 0) else false))) Z Z Q4 Z Qw) ?_;refine dN 1 Z ?_;refine Q2 Z Z Q4 (fun hg => QU (j := 8) Z Z Z Z (by decide) Z Z Z Z Z Z) ?_;refine Q2 Z Z Q4 (fun hg => Q3 (Qa hg) Z Z Z Z Z) ?_;refine Q2 Z Z Q4 (fun hg => QY (Qa hg) Z Z) ?_;refine Q2 Z Z Q4 (fun hg => Qc (Qa hg) Z) ?_;refine QD Z Z QL (fun hg => Q7 Z Z Z Z Z Z Z Z Z) ?_;refine QD Z Z QL (fun hg => Q3 (Qa hg) Z Z Z Z Z) ?_;refine QD Z Z QL (fun hg => Qz (c := (a0.fb6 != 0)) (Qa hg) Z Z Z Z) ?_;refine Q2 Z Z Q4 (fun hg => Ql (v := .bool ((a0.fb6 != 0))) (w := .bool false) (Qa hg) Z (Jy hg) Z Qw Z Z Z) ?_
                      refine u0 (Qm (v := .bool true) (w := .bool ((bif !(v3.fe8) then (a0.fb6 != 0) else false))) Z Z Q4 Z Qw) ?_;refine dN 1 Z ?_;refine Q2 Z Z Q4 (fun hg => QU (j := 9) Z Z Z Z (by decide) Z Z Z Z Z Z) ?_;refine Q2 Z Z Q4 (fun hg => Q3 (Qa hg) Z Z Z Z Z) ?_;refine Q2 Z Z Q4 (fun hg => QY (Qa hg) Z Z) ?_;refine Q2 Z Z Q4 (fun hg => Qc (Qa hg) Z) ?_;refine QD Z Z QL (fun hg => Q7 Z Z Z Z Z Z Z Z Z) ?_;refine QD Z Z QL (fun hg => Q3 (Qa hg) Z Z Z Z Z) ?_;refine QD Z Z QL (fun hg => Qz (c := (a0.fa6 != 0)) (Qa hg) Z Z Z Z) ?_;refine Q2 Z Z Q4 (fun hg => Ql (v := .bool ((a0.fa6 != 0))) (w := .bool false) (Qa hg) Z (Jy hg) Z Qw Z Z Z) ?_;refine u0 (Qm (v := .bool true) (w := .bool ((bif !(v3.fe9) then (a0.fa6 != 0) else false))) Z Z Q4 Z Qw) ?_;refine dN 1 Z ?_;refine Q2 Z Z Q4 (fun hg => QU (j := 10) Z Z Z Z (by decide) Z Z Z Z Z Z) ?_;refine Q2 Z Z Q4 (fun hg => Q3 (Qa hg) Z Z Z Z Z) ?_;refine Q2 Z Z Q4 (fun hg => QY (Qa hg) Z Z) ?_;refine Q2 Z Z Q4 (fun hg => Qc (Qa hg) Z) ?_
                      refine QD Z Z QL (fun hg => Q7 Z Z Z Z Z Z Z Z Z) ?_;refine QD Z Z QL (fun hg => Q3 (Qa hg) Z Z Z Z Z) ?_;refine QD Z Z QL (fun hg => Qz (c := (a0.f0 != 0)) (Qa hg) Z Z Z Z) ?_;refine Q2 Z Z Q4 (fun hg => Ql (v := .bool ((a0.f0 != 0))) (w := .bool false) (Qa hg) Z (Jy hg) Z Qw Z Z Z) ?_;refine u0 (Qm (v := .bool true) (w := .bool ((bif !(v3.fe10) then (a0.f0 != 0) else false))) Z Z Q4 Z Qw) ?_;refine dN 1 Z ?_;refine Q2 Z Z Q4 (fun hg => QU (j := 11) Z Z Z Z (by decide) Z Z Z Z Z Z) ?_;refine Q2 Z Z Q4 (fun hg => Q3 (Qa hg) Z Z Z Z Z) ?_;refine Q2 Z Z Q4 (fun hg => QY (Qa hg) Z Z) ?_;refine Q2 Z Z Q4 (fun hg => Qc (Qa hg) Z) ?_;refine QD Z Z QL (fun hg => Q7 Z Z Z Z Z Z Z Z Z) ?_;refine QD Z Z QL (fun hg => QO (Qa hg) Z Z Z Z Z Z) ?_;refine QD Z Z QL (fun hg => Wh Z Z Z Z Z Z Z) ?_;refine QD Z Z QL (fun hg => AI (us := [.int .i64 a0.fv.fo, .string a0.fv.fa1, .int .i64 a0.fv.f0, .int .i64 a0.fv.fc0, .int .i64 a0.fv.fb9]) (vs := [.int .i64 0, .string ByteArray.empty, .int .i64 0, .int .i64 0, .int .i64 0]) (c := (!((a0.fv.fo == 0) && ((a0.fv.fa1.toList == ByteArray.empty.toList) && ((a0.fv.f0 == 0) && ((a0.fv.fc0 == 0) && ((a0.fv.fb9 == 0) && true))))))) (Qa hg) (Qa hg) (by kernel_rfl) Z Z Z Z Z Z) ?_
                      refine Q2 Z Z Q4 (fun hg => Ql (v := .bool ((!((a0.fv.fo == 0) && ((a0.fv.fa1.toList == ByteArray.empty.toList) && ((a0.fv.f0 == 0) && ((a0.fv.fc0 == 0) && ((a0.fv.fb9 == 0) && true)))))))) (w := .bool false) (Qa hg) Z (Jy hg) Z Qw Z Z Z) ?_;refine u0 (Qm (v := .bool true) (w := .bool ((bif !(v3.fe11) then (!((a0.fv.fo == 0) && ((a0.fv.fa1.toList == ByteArray.empty.toList) && ((a0.fv.f0 == 0) && ((a0.fv.fc0 == 0) && ((a0.fv.fb9 == 0) && true)))))) else false))) Z Z Q4 Z Qw) ?_;refine dN 1 Z ?_;refine Q2 Z Z Q4 (fun hg => QU (j := 12) Z Z Z Z (by decide) Z Z Z Z Z Z) ?_;refine Q2 Z Z Q4 (fun hg => Q3 (Qa hg) Z Z Z Z Z) ?_;refine Q2 Z Z Q4 (fun hg => QY (Qa hg) Z Z) ?_;refine Q2 Z Z Q4 (fun hg => Qc (Qa hg) Z) ?_;refine QD Z Z QL (fun hg => Q7 Z Z Z Z Z Z Z Z Z) ?_;refine QD Z Z QL (fun hg => Q3 (Qa hg) Z Z Z Z Z) ?_;refine QD Z Z QL (fun hg => QA (Qa hg) Z Z Z) ?_;refine QD Z Z QL (fun hg => Qz (c := decide (((a0.fb4.length : Int)) > 0)) (Qa hg) Z Z Z Z) ?_
                      refine Q2 Z Z Q4 (fun hg => Ql (v := .bool (decide (((a0.fb4.length : Int)) > 0))) (w := .bool false) (Qa hg) Z (Jy hg) Z Qw Z Z Z) ?_;refine u0 (Qm (v := .bool true) (w := .bool ((bif !(v3.fe12) then decide (((a0.fb4.length : Int)) > 0) else false))) Z Z Q4 Z Qw) ?_;refine rt (hL _ ?_);refine QQ (st' := ⟨[(269, .c (.p (.v (.bool ((bif (bif (bif (bif (bif (bif (bif (bif (bif (bif (bif (bif (bif !(v3.fe0) then (!(a0.fb7.toList == ((⟨#[]⟩ : ByteArray)).toList)) else false) then true else (bif !(v3.fe1) then (!(a0.fj.toList == ((⟨#[]⟩ : ByteArray)).toList)) else false)) then true else (bif !(v3.fe2) then decide (((a0.fa2.length : Int)) > 0) else false)) then true else (bif !(v3.fe3) then (!((a0.fb.fo == 0) && ((a0.fb.fg == 0) && ((a0.fb.fq == 0) && ((a0.fb.fu == 0) && true))))) else false)) then true else (bif !(v3.fe4) then decide (((a0.f8.length : Int)) > 0) else false)) then true else (bif !(v3.fe5) then decide (((a0.fb5.length : Int)) > 0) else false)) then true else (bif !(v3.fe6) then (bif (a0.fa3 != 0) then true else (a0.fb0 != 0)) else false)) then true else (bif !(v3.fe7) then (a0.fa5 != 0) else false)) then true else (bif !(v3.fe8) then (a0.fb6 != 0) else false)) then true else (bif !(v3.fe9) then (a0.fa6 != 0) else false)) then true else (bif !(v3.fe10) then (a0.f0 != 0) else false)) then true else (bif !(v3.fe11) then (!((a0.fv.fo == 0) && ((a0.fv.fa1.toList == ByteArray.empty.toList) && ((a0.fv.f0 == 0) && ((a0.fv.fc0 == 0) && ((a0.fv.fb9 == 0) && true)))))) else false)) then true else (bif !(v3.fe12) then decide (((a0.fb4.length : Int)) > 0) else false)))))))], []⟩) QC.fit ?_
                      refine cn h (fun h => ?_) fun h => ?_
                      · refine tD Z ?_;obtain rfl := h;exact Qf (hQ _ _ (Zq Z Z))
                      · refine Qh (hL25 _ ?_);refine tD Z ?_;obtain rfl := h;exact Qf (hQ _ _ (Zq Z Z))
                  · refine tk fun L hL => ?_;refine u0 (QU (j := 11) Z Z Z Z (by decide) Z Z Z Z Z Z) ?_;refine dN 1 Z ?_;refine rt (hL _ ?_);refine cn h (fun h => ?_) fun h => ?_
                    · refine tk fun L hL => ?_;refine dN 2 Z ?_;obtain ⟨v23, hv23, h⟩ := h;refine u0 (QR (Av hv23)) ?_;refine dN 1 Z ?_;refine rt (hL _ ?_);refine tD Z ?_;refine cn h (fun h => ?_) fun h => ?_
                      · refine tD Z ?_;obtain rfl := h;exact Qf (hQ _ _ (Zq Z Z))
                      · refine Qh (hL22 _ _ h QC.fit)
                    · refine Qh (hL22 _ _ h QC.fit)
        · refine tk fun L hL => ?_;refine u0 (QU (j := 3) Z Z Z Z (by decide) Z Z Z Z Z Z) ?_;refine dN 1 Z ?_;refine rt (hL _ ?_);refine cn h (fun h => ?_) fun h => ?_
          · refine tk fun L hL => ?_;refine dN 2 Z ?_;obtain ⟨v10, hv10, h⟩ := h;refine u0 (QR (VA hv10)) ?_;refine dN 1 Z ?_;refine rt (hL _ ?_);refine tD Z ?_;refine cn h (fun h => ?_) fun h => ?_
            · refine tD Z ?_;obtain rfl := h;exact Qf (hQ _ _ (Zq Z Z))
            · refine Qh (hL9 _ _ h QC.fit)
          · refine Qh (hL9 _ _ h QC.fit)
def JG (a0 : (List Q5)) (a1 : Int) (Q : ((List Q5) × Int) → Prop) : Prop :=
 ((((bif decide (a1 < 0) then true else decide (a1 ≥ ((a0.length : Int))))) = true → Q (([] : (List Q5)), 5)) ∧ (((bif decide (a1 < 0) then true else decide (a1 ≥ ((a0.length : Int))))) = false → ∃ v3, ix a0 a1 v3 ∧ (((!(v3.fb1)) = true → Q (([] : (List Q5)), 13)) ∧ ((!(v3.fb1)) = false → (a0.length * 1088 ≤ 140737488355328) ∧ ∃ v5, ix a0 a1 v5 ∧ Q ((List.set (List.set (List.set (List.set a0 (Int.toNat a1) ((Q5.mk false v5.fOp v5.fk v5.f9 v5.f5 v5.fa0))) (Int.toNat a1) ((Q5.mk false (Qq.mk 0 ByteArray.empty ByteArray.empty (([] : (List ByteArray))) (Q6.mk 0 0 0 0) (([] : (List Qi))) (([] : (List Int))) 0 0 0 0 0 0 (Qu.mk 0 ByteArray.empty 0 0 0) (([] : (List Int)))) v5.fk v5.f9 v5.f5 v5.fa0))) (Int.toNat a1) ((Q5.mk false (Qq.mk 0 ByteArray.empty ByteArray.empty (([] : (List ByteArray))) (Q6.mk 0 0 0 0) (([] : (List Qi))) (([] : (List Int))) 0 0 0 0 0 0 (Qu.mk 0 ByteArray.empty 0 0 0) (([] : (List Int)))) (Qy.mk 0 0 false (([] : (List Int))) 0 (Qd.mk (Q6.mk 0 0 0 0) (Qo.mk 0 0 false) (Qb.mk 0 0 0 (([] : (List Int))) false) (Qj.mk 0 0 (([] : (List Int)))) (Qt.mk 0 0 (([] : (List Q1))) false) (Qe.mk 0 0 0 (([] : (List Q1))) false) (Qk.mk 0 0 0 (([] : (List (List ByteArray)))) false)) (Qd.mk (Q6.mk 0 0 0 0) (Qo.mk 0 0 false) (Qb.mk 0 0 0 (([] : (List Int))) false) (Qj.mk 0 0 (([] : (List Int)))) (Qt.mk 0 0 (([] : (List Q1))) false) (Qe.mk 0 0 0 (([] : (List Q1))) false) (Qk.mk 0 0 0 (([] : (List (List ByteArray)))) false)) 0 0 0 0 (Z7.mk 0 0) (([] : (List Int))) false) v5.f9 v5.f5 v5.fa0))) (Int.toNat a1) ((Q5.mk false (Qq.mk 0 ByteArray.empty ByteArray.empty (([] : (List ByteArray))) (Q6.mk 0 0 0 0) (([] : (List Qi))) (([] : (List Int))) 0 0 0 0 0 0 (Qu.mk 0 ByteArray.empty 0 0 0) (([] : (List Int)))) (Qy.mk 0 0 false (([] : (List Int))) 0 (Qd.mk (Q6.mk 0 0 0 0) (Qo.mk 0 0 false) (Qb.mk 0 0 0 (([] : (List Int))) false) (Qj.mk 0 0 (([] : (List Int)))) (Qt.mk 0 0 (([] : (List Q1))) false) (Qe.mk 0 0 0 (([] : (List Q1))) false) (Qk.mk 0 0 0 (([] : (List (List ByteArray)))) false)) (Qd.mk (Q6.mk 0 0 0 0) (Qo.mk 0 0 false) (Qb.mk 0 0 0 (([] : (List Int))) false) (Qj.mk 0 0 (([] : (List Int)))) (Qt.mk 0 0 (([] : (List Q1))) false) (Qe.mk 0 0 0 (([] : (List Q1))) false) (Qk.mk 0 0 0 (([] : (List (List ByteArray)))) false)) 0 0 0 0 (Z7.mk 0 0) (([] : (List Int))) false) 0 v5.f5 v5.fa0))), 0)))))
def ZT (a0 : (List Q5)) (a1 : Int) (r : (List Q5) × Int) : Prop := JG a0 a1 fun x => r = x
theorem WX {a0 : (List Q5)} {a1 : Int} {r : (List Q5) × Int} (h : ZT a0 a1 r) : Qp Tryz.prog 14 [.c (.l 97 (List.map Qv a0)), .c (.v (.int .i64 a1))] [.c (.own 97 (List.map Qv r.1)), .c (.p (.v (.int .i64 r.2)))] [] := by
  refine Qn tb Tryz.func14 Z (by kernel_rfl) Z Z (Nat.le_of_ble_eq_true Z) Z ?_;intro E;unfold ZT JG at h;refine Z3 (fun Q hQ => ?_);refine tD Z ?_;refine sk fun L1 hL1 => ?_;refine tk fun L hL => ?_;refine dN 3 Z ?_;refine Q2 Z Z Q4 (fun hg => Qc Z Z) ?_;refine Q2 Z Z Q4 (fun hg => Qc Z Z) ?_;refine Q2 Z Z Q4 (fun hg => QA (Qa hg) Z Z Z) ?_;refine Q2 Z Z Q4 (fun hg => Qz (c := decide (a1 ≥ ((a0.length : Int)))) (Qa hg) (Qa hg) Z Z Z) ?_;refine u0 (Qm (v := .bool true) (w := .bool (decide (a1 ≥ ((a0.length : Int))))) Z Z Q4 Z Qw) ?_;refine rt (hL _ ?_);refine cn h (fun h => ?_) fun h => ?_
  · refine tD Z ?_;obtain rfl := h;exact Qf (hQ _ _ (Is Z Z Z Z))
  · refine Qh (hL1 _ ?_);refine QQ (st' := ⟨[(0, .c (.p (.l 97 (List.map Qv a0)))), (1, .c (.p (.v (.int .i64 a1))))], []⟩) QC.fit ?_;refine sk fun L2 hL2 => ?_;refine tk fun L hL => ?_;refine dN 2 Z ?_;obtain ⟨v3, hv3, h⟩ := h;refine u0 (QB hv3) ?_;refine dN 3 Z ?_;refine rt (hL _ ?_);refine cn h (fun h => ?_) fun h => ?_
    · refine tD Z ?_;obtain rfl := h;exact Qf (hQ _ _ (Is Z Z Z Z))
    · refine Qh (hL2 _ ?_);refine tk fun L hL => ?_;refine dN 1 Z ?_;obtain ⟨hm4, h⟩ := h;refine ul (VP (f := Qv) (L := a0) hm4 Z Z Z Z Z Z Z Z Z Z (Vv QJ Z Z Z Z Z)) ?_;refine dN 1 Z ?_;refine rt (hL _ ?_);refine tk fun L hL => ?_;refine dN 2 Z ?_;obtain ⟨v5, hv5, h⟩ := h;refine u0 (QV hv5) ?_;refine dN 1 Z ?_;refine rt (hL _ ?_);refine tk fun L hL => ?_;refine dN 8 Z ?_;refine un (Zf (x1 := (Q5.mk false v5.fOp v5.fk v5.f9 v5.f5 v5.fa0)) hv5.2) ?_;refine dN 2 Z ?_;refine un (K0 (x1 := (Q5.mk false (Qq.mk 0 ByteArray.empty ByteArray.empty (([] : (List ByteArray))) (Q6.mk 0 0 0 0) (([] : (List Qi))) (([] : (List Int))) 0 0 0 0 0 0 (Qu.mk 0 ByteArray.empty 0 0 0) (([] : (List Int)))) v5.fk v5.f9 v5.f5 v5.fa0)) (ZC hv5.2) Z Z Z Z (.c (.c (.c (.cons (.nil _) (.c (.c (.c (.c (.cons (.nil _) (.cons (.nil _) (.c (.c (.c (.c (.c (.c (.c (.c (.c (.c (.c (.cons (.nil _) .nil))))))))))))))))))))))) ?_;refine dN 2 Z ?_;refine un (K0 (x1 := (Q5.mk false (Qq.mk 0 ByteArray.empty ByteArray.empty (([] : (List ByteArray))) (Q6.mk 0 0 0 0) (([] : (List Qi))) (([] : (List Int))) 0 0 0 0 0 0 (Qu.mk 0 ByteArray.empty 0 0 0) (([] : (List Int)))) (Qy.mk 0 0 false (([] : (List Int))) 0 (Qd.mk (Q6.mk 0 0 0 0) (Qo.mk 0 0 false) (Qb.mk 0 0 0 (([] : (List Int))) false) (Qj.mk 0 0 (([] : (List Int)))) (Qt.mk 0 0 (([] : (List Q1))) false) (Qe.mk 0 0 0 (([] : (List Q1))) false) (Qk.mk 0 0 0 (([] : (List (List ByteArray)))) false)) (Qd.mk (Q6.mk 0 0 0 0) (Qo.mk 0 0 false) (Qb.mk 0 0 0 (([] : (List Int))) false) (Qj.mk 0 0 (([] : (List Int)))) (Qt.mk 0 0 (([] : (List Q1))) false) (Qe.mk 0 0 0 (([] : (List Q1))) false) (Qk.mk 0 0 0 (([] : (List (List ByteArray)))) false)) 0 0 0 0 (Z7.mk 0 0) (([] : (List Int))) false) v5.f9 v5.f5 v5.fa0)) (ZC (ZC hv5.2)) Z Z Z Z (.c (.c (.c (.cons (.nil _) (.c (.c (.c (.c (.c (.c (.c (.c (.c (.c (.c (.cons (.nil _) (.c (.c (.c (.cons (.nil _) (.c (.c (.cons (.nil _) (.c (.c (.c (.c (.cons (.nil _) (.c (.c (.c (.c (.cons (.nil _) (.c (.c (.c (.c (.c (.c (.c (.c (.c (.c (.c (.cons (.nil _) (.c (.c (.c (.cons (.nil _) (.c (.c (.cons (.nil _) (.c (.c (.c (.c (.cons (.nil _) (.c (.c (.c (.c (.cons (.nil _) (.c (.c (.c (.c (.c (.c (.c (.cons (.nil _) (.c .nil)))))))))))))))))))))))))))))))))))))))))))))))))))))))))))))))))))))))) ?_
      refine dN 2 Z ?_;refine un (Zf (x1 := (Q5.mk false (Qq.mk 0 ByteArray.empty ByteArray.empty (([] : (List ByteArray))) (Q6.mk 0 0 0 0) (([] : (List Qi))) (([] : (List Int))) 0 0 0 0 0 0 (Qu.mk 0 ByteArray.empty 0 0 0) (([] : (List Int)))) (Qy.mk 0 0 false (([] : (List Int))) 0 (Qd.mk (Q6.mk 0 0 0 0) (Qo.mk 0 0 false) (Qb.mk 0 0 0 (([] : (List Int))) false) (Qj.mk 0 0 (([] : (List Int)))) (Qt.mk 0 0 (([] : (List Q1))) false) (Qe.mk 0 0 0 (([] : (List Q1))) false) (Qk.mk 0 0 0 (([] : (List (List ByteArray)))) false)) (Qd.mk (Q6.mk 0 0 0 0) (Qo.mk 0 0 false) (Qb.mk 0 0 0 (([] : (List Int))) false) (Qj.mk 0 0 (([] : (List Int)))) (Qt.mk 0 0 (([] : (List Q1))) false) (Qe.mk 0 0 0 (([] : (List Q1))) false) (Qk.mk 0 0 0 (([] : (List (List ByteArray)))) false)) 0 0 0 0 (Z7.mk 0 0) (([] : (List Int))) false) 0 v5.f5 v5.fa0)) (ZC (ZC (ZC hv5.2)))) ?_;refine rt (hL _ ?_);refine tD Z ?_;obtain rfl := h
      exact Qf (hQ _ _ ⟨.inr Z, _, _, _, (.cons (.s Z) (.cons (.p Z) .nil)), (.cons (.c (.own Z (by simp))) (.cons (.c (.p _)) .nil)), Z, Z⟩)
set_option maxRecDepth 100000
set_option maxHeartbeats 4000000
def Uq (a0 : Int) (Q : Bool → Prop) : Prop :=
 Q (((bif decide (a0 ≥ 97) then decide (a0 ≤ 122) else false)))
def VZ (a0 : Int) (r : Bool) : Prop := Uq a0 fun x => r = x
theorem BI {a0 : Int} {r : Bool} (h : VZ a0 r) : Qp Tryz.prog 133 [.c (.v (.int .u8 a0))] [.c (.p (.v (.bool r)))] [] := by
  refine Qn tb Tryz.func133 Z (by kernel_rfl) Z Z (Nat.le_of_ble_eq_true Z) Z ?_;intro E;unfold VZ Uq at h;refine Z3 (fun Q hQ => ?_);refine tD Z ?_;refine tk fun L hL => ?_;refine dN 3 Z ?_;refine Q2 Z Z Q8 (fun hg => Qc Z Z) ?_;refine Q2 Z Z Q8 (fun hg => Qz (c := decide (a0 ≤ 122)) (Qa hg) Z Z Z Z) ?_;refine u0 (Ql (v := .bool (decide (a0 ≤ 122))) (w := .bool false) Z Z Q8 Z Qw) ?_;refine dN 1 Z ?_;refine rt (hL _ ?_);obtain rfl := h;exact Qf (hQ _ _ (Zq Z Z))
def Ur (a0 : Int) (Q : Bool → Prop) : Prop :=
 Q (((bif decide (a0 ≥ 48) then decide (a0 ≤ 57) else false)))
def Y2 (a0 : Int) (r : Bool) : Prop := Ur a0 fun x => r = x
theorem FX {a0 : Int} {r : Bool} (h : Y2 a0 r) : Qp Tryz.prog 134 [.c (.v (.int .u8 a0))] [.c (.p (.v (.bool r)))] [] := by
  refine Qn tb Tryz.func134 Z (by kernel_rfl) Z Z (Nat.le_of_ble_eq_true Z) Z ?_;intro E;unfold Y2 Ur at h;refine Z3 (fun Q hQ => ?_);refine tD Z ?_;refine tk fun L hL => ?_;refine dN 3 Z ?_;refine Q2 Z Z Q8 (fun hg => Qc Z Z) ?_;refine Q2 Z Z Q8 (fun hg => Qz (c := decide (a0 ≤ 57)) (Qa hg) Z Z Z Z) ?_;refine u0 (Ql (v := .bool (decide (a0 ≤ 57))) (w := .bool false) Z Z Q8 Z Qw) ?_;refine dN 1 Z ?_;refine rt (hL _ ?_);obtain rfl := h;exact Qf (hQ _ _ (Zq Z Z))
def WY (a0 : ByteArray) (Q : Bool → Prop) : Prop :=
 ∃ (v2 : Int), ((!((bif decide (((a0.size : Int)) < 1) then true else decide (((a0.size : Int)) > 16)))) = true → bx a0 0 v2) ∧ ∃ (v3 : Bool), ((!((bif decide (((a0.size : Int)) < 1) then true else decide (((a0.size : Int)) > 16)))) = true → VZ v2 v3) ∧ ((((bif (bif decide (((a0.size : Int)) < 1) then true else decide (((a0.size : Int)) > 16)) then true else !(v3))) = true → Q false) ∧ (((bif (bif decide (((a0.size : Int)) < 1) then true else decide (((a0.size : Int)) > 16)) then true else !(v3))) = false → jn (fun (p4 : Unit) => Q true) (fun (J4 : Unit → Prop) => lp (fun (X5 : Int → Prop) (s5 : Int) => (((decide (s5 < ((a0.size : Int)))) = true → ∃ v8, bx a0 s5 v8 ∧ ∃ v9, VZ v8 v9 ∧ ∃ (v10 : Bool), ((!(v9)) = true → Y2 v8 v10) ∧ ((((bif (bif (bif !(v9) then !(v10) else false) then (v8 != 45) else false) then (v8 != 46) else false)) = true → Q false) ∧ (((bif (bif (bif !(v9) then !(v10) else false) then (v8 != 45) else false) then (v8 != 46) else false)) = false → X5 ((IntKind.i64.wrap (s5 + 1)))))) ∧ ((decide (s5 < ((a0.size : Int)))) = false → J4 (())))) 0)))
def Xs (a0 : ByteArray) (r : Bool) : Prop := WY a0 fun x => r = x
theorem Fg {a0 : ByteArray} {r : Bool} (h : Xs a0 r) : Qp Tryz.prog 110 [.c (.v (.string a0))] [.c (.p (.v (.bool r)))] [] := by
  refine Qn tb Tryz.func110 Z (by kernel_rfl) Z Z (Nat.le_of_ble_eq_true Z) Z ?_;intro E;unfold Xs WY at h;refine Z3 (fun Q hQ => ?_);refine tD Z ?_;refine sk fun L1 hL1 => ?_;refine tk fun L hL => ?_;refine dN 1 Z ?_;refine u0 Kk ?_;refine dN 2 Z ?_;refine Q2 Z Z Q4 (fun hg => Qc Z Z) ?_;refine Q2 Z Z Q4 (fun hg => Kk (Qa hg) Z Z Z) ?_;refine Q2 Z Z Q4 (fun hg => Qz (c := decide (((a0.size : Int)) > 16)) (Qa hg) Z Z Z Z) ?_;refine u0 (Qm (v := .bool true) (w := .bool (decide (((a0.size : Int)) > 16))) Z Z Q4 Z Qw) ?_;refine dN 1 Z ?_;refine Q2 Z Z Q4 (fun hg => Qc Z Z) ?_;obtain ⟨v2, hv2, h⟩ := h;refine Q2 Z Z Q4 (fun hg => Vr (hv2 hg) (Qa hg) Z Z Z Z Z) ?_;obtain ⟨v3, hv3, h⟩ := h;refine Q2 Z Z Q4 (fun hg => QN (BI (hv3 hg)) Z Z (.cons (Zd hg (.c (.p _))) .nil) Z Z Z) ?_;refine Q2 Z Z Q4 (fun hg => QY (Qa hg) Z Z) ?_;refine u0 (Qm (v := .bool true) (w := .bool (!(v3))) Z Z Q4 Z Qw) ?_;refine rt (hL _ ?_);refine cn h (fun h => ?_) fun h => ?_
  · refine tD Z ?_;obtain rfl := h;exact Qf (hQ _ _ (Zq Z Z))
  · refine Qh (hL1 _ ?_);refine QQ (st' := ⟨[(0, .c (.p (.v (.string a0))))], []⟩) QC.fit ?_;refine Z2 (fun (p4 : Unit) => (⟨[], []⟩ : St)) h (fun p4 h => ?_) (fun J4 L4 hL4 h => ?_)
    · refine tD Z ?_;obtain rfl := h;exact Qf (hQ _ _ (Zq Z Z))
    · refine tk fun L hL => ?_;refine dN 1 Z ?_;refine u0 Kk ?_;refine dN 1 Z ?_;refine rt (hL _ ?_);refine Qr ?_;refine Zn (fun (s5 : Int) => (⟨[(0, .c (.p (.v (.string a0)))), (20, .c (.p (.v (.int .i64 ((a0.size : Int)))))), (21, .c (.p (.v (.int .i64 s5))))], []⟩ : St)) h QC.fit (fun X5 L5 hL5 s5 h => ?_);refine tD Z ?_;refine sk fun L6 hL6 => ?_;refine cn h (fun h => ?_) fun h => ?_
      · refine Qh (hL6 _ ?_);refine sk fun L7 hL7 => ?_;refine Qr ?_;refine tD Z ?_;refine tk fun L hL => ?_;refine dN 2 Z ?_;obtain ⟨v8, hv8, h⟩ := h;refine u0 (Vr hv8) ?_;refine dN 1 Z ?_;refine rt (hL _ ?_);refine tk fun L hL => ?_;refine dN 1 Z ?_;obtain ⟨v9, hv9, h⟩ := h;refine u0 (QR (BI hv9)) ?_;refine dN 2 Z ?_;refine Q2 Z Z Q8 (fun hg => Qc Z Z) ?_;obtain ⟨v10, hv10, h⟩ := h;refine Q2 Z Z Q8 (fun hg => QN (FX (hv10 hg)) Z Z (.cons (Zd hg (.c (.p _))) .nil) Z Z Z) ?_;refine Q2 Z Z Q8 (fun hg => QY (Qa hg) Z Z) ?_;refine u0 (Ql (v := .bool (!(v10))) (w := .bool false) Z Z Q8 Z Qw) ?_;refine dN 1 Z ?_;refine Q2 Z Z Q8 (fun hg => Qc Z Z) ?_;refine Q2 Z Z Q8 (fun hg => Qz (c := (v8 != 45)) (Qa hg) Z Z Z Z) ?_;refine u0 (Ql (v := .bool ((v8 != 45))) (w := .bool false) Z Z Q8 Z Qw) ?_;refine dN 1 Z ?_;refine Q2 Z Z Q8 (fun hg => Qc Z Z) ?_;refine Q2 Z Z Q8 (fun hg => Qz (c := (v8 != 46)) (Qa hg) Z Z Z Z) ?_;refine u0 (Ql (v := .bool ((v8 != 46))) (w := .bool false) Z Z Q8 Z Qw) ?_;refine rt (hL _ ?_)
        refine cn h (fun h => ?_) fun h => ?_
        · refine tD Z ?_;obtain rfl := h;exact Qf (hQ _ _ (Zq Z Z))
        · refine Qh (hL7 _ ?_);refine QQ (st' := ⟨[(0, .c (.p (.v (.string a0)))), (20, .c (.p (.v (.int .i64 ((a0.size : Int)))))), (21, .c (.p (.v (.int .i64 s5))))], []⟩) QC.fit ?_;refine tE Z (hL5 _ _ h QC.fit)
      · refine QP (hL4 _ _ h QC.fit)
def UG (a0 : ByteArray) (Q : Int → Prop) : Prop :=
 ∃ v2, Xs a0 v2 ∧ (((!(v2)) = true → Q 6) ∧ ((!(v2)) = false → Q 0))
def Jx (a0 : ByteArray) (r : Int) : Prop := UG a0 fun x => r = x
theorem W5 {a0 : ByteArray} {r : Int} (h : Jx a0 r) : Qp Tryz.prog 68 [.c (.v (.string a0))] [.c (.p (.v (.int .i64 r)))] [] := by
  refine Qn tb Tryz.func68 Z (by kernel_rfl) Z Z (Nat.le_of_ble_eq_true Z) Z ?_;intro E;unfold Jx UG at h;refine Z3 (fun Q hQ => ?_);refine tD Z ?_;refine sk fun L1 hL1 => ?_;refine tk fun L hL => ?_;refine dN 1 Z ?_;obtain ⟨v2, hv2, h⟩ := h;refine u0 (QR (Fg hv2)) ?_;refine dN 1 Z ?_;refine rt (hL _ ?_);refine cn h (fun h => ?_) fun h => ?_
  · refine tD Z ?_;obtain rfl := h;exact Qf (hQ _ _ (Zq Z Z))
  · refine Qh (hL1 _ ?_);refine tD Z ?_;obtain rfl := h;exact Qf (hQ _ _ (Zq Z Z))
def XN (a0 : Int) (a1 : Int) (a2 : Int) (Q : Int → Prop) : Prop :=
 ((((bif decide (a0 < a1) then true else decide (a0 > a2))) = true → Q 5) ∧ (((bif decide (a0 < a1) then true else decide (a0 > a2))) = false → Q 0))
def Z9 (a0 : Int) (a1 : Int) (a2 : Int) (r : Int) : Prop := XN a0 a1 a2 fun x => r = x
theorem ZG {a0 : Int} {a1 : Int} {a2 : Int} {r : Int} (h : Z9 a0 a1 a2 r) : Qp Tryz.prog 73 [.c (.v (.int .i64 a0)), .c (.v (.int .i64 a1)), .c (.v (.int .i64 a2))] [.c (.p (.v (.int .i64 r)))] [] := by
  refine Qn tb Tryz.func73 Z (by kernel_rfl) Z Z (Nat.le_of_ble_eq_true Z) Z ?_;intro E;unfold Z9 XN at h;refine Z3 (fun Q hQ => ?_);refine tD Z ?_;refine sk fun L1 hL1 => ?_;refine tk fun L hL => ?_;refine dN 4 Z ?_;refine Q2 Z Z Q4 (fun hg => Qc Z Z) ?_;refine Q2 Z Z Q4 (fun hg => Qc Z Z) ?_;refine Q2 Z Z Q4 (fun hg => Qz (c := decide (a0 > a2)) (Qa hg) (Qa hg) Z Z Z) ?_;refine u0 (Qm (v := .bool true) (w := .bool (decide (a0 > a2))) Z Z Q4 Z Qw) ?_;refine rt (hL _ ?_);refine cn h (fun h => ?_) fun h => ?_
  · refine tD Z ?_;obtain rfl := h;exact Qf (hQ _ _ (Zq Z Z))
  · refine Qh (hL1 _ ?_);refine QQ (st' := ⟨[], []⟩) QC.fit ?_;refine tD Z ?_;obtain rfl := h;exact Qf (hQ _ _ (Zq Z Z))
def W6 (a0 : (List ByteArray)) (Q : Int → Prop) : Prop :=
 ∃ v2, Z9 ((a0.length : Int)) 1 16 v2 ∧ ((((v2 != 0)) = true → Q v2) ∧ (((v2 != 0)) = false → jn (fun (p3 : Unit) => Q 0) (fun (J3 : Unit → Prop) => lp (fun (X4 : Int → Prop) (s4 : Int) => (((decide (s4 < ((a0.length : Int)))) = true → ∃ v7, ix a0 s4 v7 ∧ ∃ v8, Jx v7 v8 ∧ ((((v8 != 0)) = true → Q v8) ∧ (((v8 != 0)) = false → X4 ((IntKind.i64.wrap (s4 + 1)))))) ∧ ((decide (s4 < ((a0.length : Int)))) = false → J3 (())))) 0)))
def Vg (a0 : (List ByteArray)) (r : Int) : Prop := W6 a0 fun x => r = x
theorem DJ {a0 : (List ByteArray)} {r : Int} (h : Vg a0 r) : Qp Tryz.prog 69 [.c (.l 1 (List.map eS a0))] [.c (.p (.v (.int .i64 r)))] [] := by
  refine Qn tb Tryz.func69 Z (by kernel_rfl) Z Z (Nat.le_of_ble_eq_true Z) Z ?_;intro E;unfold Vg W6 at h;refine Z3 (fun Q hQ => ?_);refine tD Z ?_;refine sk fun L1 hL1 => ?_;refine tk fun L hL => ?_;refine dN 1 Z ?_;refine u0 QA ?_;obtain ⟨v2, hv2, h⟩ := h;refine u0 (QR (ZG hv2)) ?_;refine dN 1 Z ?_;refine rt (hL _ ?_);refine tD Z ?_;refine cn h (fun h => ?_) fun h => ?_
  · refine tD Z ?_;obtain rfl := h;exact Qf (hQ _ _ (Zq Z Z))
  · refine Qh (hL1 _ ?_);refine Z2 (fun (p3 : Unit) => (⟨[], []⟩ : St)) h (fun p3 h => ?_) (fun J3 L3 hL3 h => ?_)
    · refine tD Z ?_;obtain rfl := h;exact Qf (hQ _ _ (Zq Z Z))
    · refine tk fun L hL => ?_;refine dN 1 Z ?_;refine u0 QA ?_;refine dN 1 Z ?_;refine rt (hL _ ?_);refine Qr ?_;refine Zn (fun (s4 : Int) => (⟨[(13, .c (.p (.l 1 (List.map eS a0)))), (14, .c (.p (.v (.int .i64 ((a0.length : Int)))))), (15, .c (.p (.v (.int .i64 s4))))], []⟩ : St)) h QC.fit (fun X4 L4 hL4 s4 h => ?_);refine tD Z ?_;refine sk fun L5 hL5 => ?_;refine cn h (fun h => ?_) fun h => ?_
      · refine Qh (hL5 _ ?_);refine sk fun L6 hL6 => ?_;refine Qr ?_;refine tk fun L hL => ?_;obtain ⟨v7, hv7, h⟩ := h;refine u0 (QB hv7) ?_;refine dN 2 Z ?_;refine rt (hL _ ?_);refine tk fun L hL => ?_;refine dN 1 Z ?_;obtain ⟨v8, hv8, h⟩ := h;refine u0 (QR (W5 hv8)) ?_;refine dN 1 Z ?_;refine rt (hL _ ?_);refine tD Z ?_;refine cn h (fun h => ?_) fun h => ?_
        · refine tD Z ?_;obtain rfl := h;exact Qf (hQ _ _ (Zq Z Z))
        · refine Qh (hL6 _ ?_);refine tE Z (hL4 _ _ h QC.fit)
      · refine QP (hL3 _ _ h QC.fit)
def WA (a0 : Int) (a1 : Int) (a2 : Int) (Q : Bool → Prop) : Prop :=
 Q (((bif decide (a0 ≥ a1) then decide (a0 ≤ a2) else false)))
def Kg (a0 : Int) (a1 : Int) (a2 : Int) (r : Bool) : Prop := WA a0 a1 a2 fun x => r = x
theorem VM {a0 : Int} {a1 : Int} {a2 : Int} {r : Bool} (h : Kg a0 a1 a2 r) : Qp Tryz.prog 111 [.c (.v (.int .i64 a0)), .c (.v (.int .i64 a1)), .c (.v (.int .i64 a2))] [.c (.p (.v (.bool r)))] [] := by
  refine Qn tb Tryz.func111 Z (by kernel_rfl) Z Z (Nat.le_of_ble_eq_true Z) Z ?_;intro E;unfold Kg WA at h;refine Z3 (fun Q hQ => ?_);refine tD Z ?_;refine tk fun L hL => ?_;refine dN 4 Z ?_;refine Q2 Z Z Q8 (fun hg => Qc Z Z) ?_;refine Q2 Z Z Q8 (fun hg => Qc Z Z) ?_;refine Q2 Z Z Q8 (fun hg => Qz (c := decide (a0 ≤ a2)) (Qa hg) (Qa hg) Z Z Z) ?_;refine u0 (Ql (v := .bool (decide (a0 ≤ a2))) (w := .bool false) Z Z Q8 Z Qw) ?_;refine dN 1 Z ?_;refine rt (hL _ ?_);obtain rfl := h;exact Qf (hQ _ _ (Zq Z Z))
def Vh (a0 : Q6) (Q : Int → Prop) : Prop :=
 jn (fun (p1 : Bool × Bool × Bool × Bool) => (((!(p1.1)) = true → Q 5) ∧ ((!(p1.1)) = false → ((((bif (bif (bif !(p1.2.1) then (a0.fg != 0) else false) then true else (bif !(p1.2.2.1) then (a0.fq != 0) else false)) then true else (bif !(p1.2.2.2) then (a0.fu != 0) else false))) = true → Q 10) ∧ (((bif (bif (bif !(p1.2.1) then (a0.fg != 0) else false) then true else (bif !(p1.2.2.1) then (a0.fq != 0) else false)) then true else (bif !(p1.2.2.2) then (a0.fu != 0) else false))) = false → Q 0))))) (fun (J1 : Bool × Bool × Bool × Bool → Prop) => ((((a0.fo == 1)) = true → J1 (true, false, false, false)) ∧ (((a0.fo == 1)) = false → ((((a0.fo == 2)) = true → ∃ v2, Kg a0.fq 1 8 v2 ∧ ∃ (v3 : Bool), (v2 = true → Kg a0.fg 1 64 v3) ∧ J1 (((bif v2 then v3 else false)), true, true, true)) ∧ (((a0.fo == 2)) = false → ((((a0.fo == 3)) = true → ∃ v4, Kg a0.fg 2 8 v4 ∧ J1 (v4, true, false, true)) ∧ (((a0.fo == 3)) = false → jn (fun (p5 : Bool) => ((p5 = true → ∃ v6, Kg a0.fg 1 32 v6 ∧ J1 (v6, true, false, false)) ∧ (p5 = false → ((((a0.fo == 6)) = true → ∃ v7, Kg a0.fg 2 32 v7 ∧ J1 (((bif v7 then ((a0.fg.tmod 2) == 0) else false)), true, false, false)) ∧ (((a0.fo == 6)) = false → Q 8))))) (fun (J5 : Bool → Prop) => ((((a0.fo == 4)) = true → J5 (((a0.fo == 4)))) ∧ (((a0.fo == 4)) = false → J5 (((a0.fo == 5)))))))))))))
def Ko (a0 : Q6) (r : Int) : Prop := Vh a0 fun x => r = x
theorem UH {a0 : Q6} {r : Int} (h : Ko a0 r) : Qp Tryz.prog 70 [.agg (Vw a0)] [.c (.p (.v (.int .i64 r)))] [] := by
  refine Qn tb Tryz.func70 Z (by kernel_rfl) Z Z (Nat.le_of_ble_eq_true Z) Z ?_;intro E;unfold Ko Vh at h;refine Z3 (fun Q hQ => ?_);refine tD Z ?_;refine tD Z ?_;refine Z2 (fun (p1 : Bool × Bool × Bool × Bool) => (⟨[(1, .c (.ptr (1, 0) 0 0)), (3, .c (.p (.v (.bool p1.1)))), (4, .c (.p (.v (.bool p1.2.1)))), (5, .c (.p (.v (.bool p1.2.2.1)))), (6, .c (.p (.v (.bool p1.2.2.2))))], [((1, 0), some (.box (List.map CV.p (Vw a0))))]⟩ : St)) h (fun p1 h => ?_) (fun J1 L1 hL1 h => ?_)
  · refine sk fun L8 hL8 => ?_;refine tD Z ?_;refine cn h (fun h => ?_) fun h => ?_
    · refine tD Z ?_;obtain rfl := h;exact Qf (hQ _ _ (Zq Z Z))
    · refine Qh (hL8 _ ?_);refine sk fun L9 hL9 => ?_;refine tk fun L hL => ?_;refine dN 3 Z ?_;refine Q2 Z Z Q8 (fun hg => Q7 Z Z Z Z Z Z Z Z Z) ?_;refine Q2 Z Z Q8 (fun hg => Q3 (Qa hg) Z Z Z Z Z) ?_;refine Q2 Z Z Q8 (fun hg => Qz (c := (a0.fg != 0)) (Qa hg) Z Z Z Z) ?_;refine u0 (Ql (v := .bool ((a0.fg != 0))) (w := .bool false) Z Z Q8 Z Qw) ?_;refine dN 1 Z ?_;refine Q2 Z Z Q4 (fun hg => Qc Z Z) ?_;refine Q2 Z Z Q4 (fun hg => QY (Qa hg) Z Z) ?_;refine Q2 Z Z Q4 (fun hg => Qc (Qa hg) Z) ?_;refine QD Z Z QL (fun hg => Q7 Z Z Z Z Z Z Z Z Z) ?_;refine QD Z Z QL (fun hg => Q3 (Qa hg) Z Z Z Z Z) ?_;refine QD Z Z QL (fun hg => Qz (c := (a0.fq != 0)) (Qa hg) Z Z Z Z) ?_;refine Q2 Z Z Q4 (fun hg => Ql (v := .bool ((a0.fq != 0))) (w := .bool false) (Qa hg) Z (Jy hg) Z Qw Z Z Z) ?_;refine u0 (Qm (v := .bool true) (w := .bool ((bif !(p1.2.2.1) then (a0.fq != 0) else false))) Z Z Q4 Z Qw) ?_;refine dN 1 Z ?_;refine Q2 Z Z Q4 (fun hg => Qc Z Z) ?_;refine Q2 Z Z Q4 (fun hg => QY (Qa hg) Z Z) ?_
      refine Q2 Z Z Q4 (fun hg => Qc (Qa hg) Z) ?_;refine QD Z Z QL (fun hg => Q7 Z Z Z Z Z Z Z Z Z) ?_;refine QD Z Z QL (fun hg => Q3 (Qa hg) Z Z Z Z Z) ?_;refine QD Z Z QL (fun hg => Qz (c := (a0.fu != 0)) (Qa hg) Z Z Z Z) ?_;refine Q2 Z Z Q4 (fun hg => Ql (v := .bool ((a0.fu != 0))) (w := .bool false) (Qa hg) Z (Jy hg) Z Qw Z Z Z) ?_;refine u0 (Qm (v := .bool true) (w := .bool ((bif !(p1.2.2.2) then (a0.fu != 0) else false))) Z Z Q4 Z Qw) ?_;refine rt (hL _ ?_);refine cn h (fun h => ?_) fun h => ?_
      · refine tD Z ?_;obtain rfl := h;exact Qf (hQ _ _ (Zq Z Z))
      · refine Qh (hL9 _ ?_);refine QQ (st' := ⟨[], []⟩) QC.fit ?_;refine tD Z ?_;obtain rfl := h;exact Qf (hQ _ _ (Zq Z Z))
  · refine tD Z ?_;refine Qr ?_;refine tD Z ?_;refine cn h (fun h => ?_) fun h => ?_
    · refine tE Z (hL1 _ _ h QC.fit)
    · refine tD Z ?_;refine cn h (fun h => ?_) fun h => ?_
      · refine tk fun L hL => ?_;refine dN 2 Z ?_;obtain ⟨v2, hv2, h⟩ := h;refine u0 (QR (VM hv2)) ?_;refine dN 1 Z ?_;refine Q2 Z Z Q8 (fun hg => Q7 Z Z Z Z Z Z Z Z Z) ?_;refine Q2 Z Z Q8 (fun hg => Q3 (Qa hg) Z Z Z Z Z) ?_;obtain ⟨v3, hv3, h⟩ := h;refine Q2 Z Z Q8 (fun hg => QN (VM (hv3 hg)) Z Z (.cons (Zd hg (.c (.p _))) (.cons (.c (.p _)) (.cons (.c (.p _)) .nil))) Z Z Z) ?_;refine u0 (Ql (v := .bool v3) (w := .bool false) Z Z Q8 Z Qw) ?_;refine dN 1 Z ?_;refine rt (hL _ ?_);refine tE Z (hL1 _ _ h QC.fit)
      · refine tD Z ?_;refine cn h (fun h => ?_) fun h => ?_
        · refine tk fun L hL => ?_;refine dN 2 Z ?_;obtain ⟨v4, hv4, h⟩ := h;refine u0 (QR (VM hv4)) ?_;refine dN 1 Z ?_;refine rt (hL _ ?_);refine tE Z (hL1 _ _ h QC.fit)
        · refine Z2 (fun (p5 : Bool) => (⟨[(1, .c (.ptr (1, 0) 0 0)), (4, .c (.p (.v (.bool true)))), (5, .c (.p (.v (.bool false)))), (6, .c (.p (.v (.bool false)))), (8, .c (.p (.v (.int .i64 a0.fo)))), (26, .c (.p (.v (.bool p5))))], [((1, 0), some (.box (List.map CV.p (Vw a0))))]⟩ : St)) h (fun p5 h => ?_) (fun J5 L5 hL5 h => ?_)
          · refine cn h (fun h => ?_) fun h => ?_
            · refine tl fun L hL => ?_;refine dN 2 Z ?_;obtain ⟨v6, hv6, h⟩ := h;refine u0 (QR (VM hv6)) ?_;refine dN 1 Z ?_;refine rt (hL _ (hL1 _ _ h QC.fit))
            · refine tD Z ?_;refine cn h (fun h => ?_) fun h => ?_
              · refine tl fun L hL => ?_;refine dN 2 Z ?_;obtain ⟨v7, hv7, h⟩ := h;refine u0 (QR (VM hv7)) ?_;refine dN 1 Z ?_;refine Q2 Z Z Q8 (fun hg => Q7 Z Z Z Z Z Z Z Z Z) ?_;refine Q2 Z Z Q8 (fun hg => Q3 (Qa hg) Z Z Z Z Z) ?_;refine Q2 Z Z Q8 (fun hg => F3 (by decide) (Qa hg) Z Z Z) ?_;refine Q2 Z Z Q8 (fun hg => Qz (c := ((a0.fg.tmod 2) == 0)) (Qa hg) Z Z Z Z) ?_;refine u0 (Ql (v := .bool (((a0.fg.tmod 2) == 0))) (w := .bool false) Z Z Q8 Z Qw) ?_;refine dN 1 Z ?_;refine rt (hL _ (hL1 _ _ h QC.fit))
              · refine tD Z ?_;obtain rfl := h;exact Qf (hQ _ _ (Zq Z Z))
          · refine tD Z ?_;refine cn h (fun h => ?_) fun h => ?_
            · refine Qh (hL5 _ _ h QC.fit)
            · refine tE Z (hL5 _ _ h QC.fit)
def Us (a0 : ByteArray) (Q : Bool → Prop) : Prop :=
 Q (((bif decide (((a0.size : Int)) ≥ 1) then decide (((a0.size : Int)) ≤ 32) else false)))
def X0 (a0 : ByteArray) (r : Bool) : Prop := Us a0 fun x => r = x
theorem BJ {a0 : ByteArray} {r : Bool} (h : X0 a0 r) : Qp Tryz.prog 113 [.c (.v (.string a0))] [.c (.p (.v (.bool r)))] [] := by
  refine Qn tb Tryz.func113 Z (by kernel_rfl) Z Z (Nat.le_of_ble_eq_true Z) Z ?_;intro E;unfold X0 Us at h;refine Z3 (fun Q hQ => ?_);refine tD Z ?_;refine tk fun L hL => ?_;refine dN 1 Z ?_;refine u0 Kk ?_;refine dN 2 Z ?_;refine Q2 Z Z Q8 (fun hg => Qc Z Z) ?_;refine Q2 Z Z Q8 (fun hg => Kk (Qa hg) Z Z Z) ?_;refine Q2 Z Z Q8 (fun hg => Qz (c := decide (((a0.size : Int)) ≤ 32)) (Qa hg) Z Z Z Z) ?_;refine u0 (Ql (v := .bool (decide (((a0.size : Int)) ≤ 32))) (w := .bool false) Z Z Q8 Z Qw) ?_;refine dN 1 Z ?_;refine rt (hL _ ?_);obtain rfl := h;exact Qf (hQ _ _ (Zq Z Z))
def Xt (a0 : Qi) (Q : Int → Prop) : Prop :=
 ∃ v2, X0 a0.fa1 v2 ∧ (((!(v2)) = true → Q 7) ∧ ((!(v2)) = false → ((((bif decide (a0.fa7 < 1) then true else decide (a0.fa7 > 4294967295))) = true → Q 5) ∧ (((bif decide (a0.fa7 < 1) then true else decide (a0.fa7 > 4294967295))) = false → Q 0))))
def Jb (a0 : Qi) (r : Int) : Prop := Xt a0 fun x => r = x
theorem AU {a0 : Qi} {r : Int} (h : Jb a0 r) : Qp Tryz.prog 112 [.agg (QK a0)] [.c (.p (.v (.int .i64 r)))] [] := by
  refine Qn tb Tryz.func112 Z (by kernel_rfl) Z Z (Nat.le_of_ble_eq_true Z) Z ?_;intro E;unfold Jb Xt at h;refine Z3 (fun Q hQ => ?_);refine tD Z ?_;refine sk fun L1 hL1 => ?_;refine tk fun L hL => ?_;refine dN 2 Z ?_;obtain ⟨v2, hv2, h⟩ := h;refine u0 (QR (BJ hv2)) ?_;refine dN 1 Z ?_;refine rt (hL _ ?_);refine cn h (fun h => ?_) fun h => ?_
  · refine tD Z ?_;obtain rfl := h;exact Qf (hQ _ _ (Zq Z Z))
  · refine Qh (hL1 _ ?_);refine sk fun L3 hL3 => ?_;refine tk fun L hL => ?_;refine dN 4 Z ?_;refine Q2 Z Z Q4 (fun hg => Q7 Z Z Z Z Z Z Z Z Z) ?_;refine Q2 Z Z Q4 (fun hg => Q3 (Qa hg) Z Z Z Z Z) ?_;refine Q2 Z Z Q4 (fun hg => Qz (c := decide (a0.fa7 > 4294967295)) (Qa hg) Z Z Z Z) ?_;refine u0 (Qm (v := .bool true) (w := .bool (decide (a0.fa7 > 4294967295))) Z Z Q4 Z Qw) ?_;refine rt (hL _ ?_);refine cn h (fun h => ?_) fun h => ?_
    · refine tD Z ?_;obtain rfl := h;exact Qf (hQ _ _ (Zq Z Z))
    · refine Qh (hL3 _ ?_);refine QQ (st' := ⟨[], []⟩) QC.fit ?_;refine tD Z ?_;obtain rfl := h;exact Qf (hQ _ _ (Zq Z Z))
def YI (a0 : (List Qi)) (Q : Int → Prop) : Prop :=
 ∃ v2, Z9 ((a0.length : Int)) 1 64 v2 ∧ ((((v2 != 0)) = true → Q v2) ∧ (((v2 != 0)) = false → jn (fun (p3 : Unit) => Q 0) (fun (J3 : Unit → Prop) => lp (fun (X4 : Int → Prop) (s4 : Int) => (((decide (s4 < ((a0.length : Int)))) = true → ∃ v7, ix a0 s4 v7 ∧ ∃ v8, Jb v7 v8 ∧ ((((v8 != 0)) = true → Q v8) ∧ (((v8 != 0)) = false → X4 ((IntKind.i64.wrap (s4 + 1)))))) ∧ ((decide (s4 < ((a0.length : Int)))) = false → J3 (())))) 0)))
def JU (a0 : (List Qi)) (r : Int) : Prop := YI a0 fun x => r = x
theorem D4 {a0 : (List Qi)} {r : Int} (h : JU a0 r) : Qp Tryz.prog 71 [.c (.l 2 (List.map QK a0))] [.c (.p (.v (.int .i64 r)))] [] := by
  refine Qn tb Tryz.func71 Z (by kernel_rfl) Z Z (Nat.le_of_ble_eq_true Z) Z ?_;intro E;unfold JU YI at h;refine Z3 (fun Q hQ => ?_);refine tD Z ?_;refine sk fun L1 hL1 => ?_;refine tk fun L hL => ?_;refine dN 1 Z ?_;refine u0 QA ?_;obtain ⟨v2, hv2, h⟩ := h;refine u0 (QR (ZG hv2)) ?_;refine dN 1 Z ?_;refine rt (hL _ ?_);refine tD Z ?_;refine cn h (fun h => ?_) fun h => ?_
  · refine tD Z ?_;obtain rfl := h;exact Qf (hQ _ _ (Zq Z Z))
  · refine Qh (hL1 _ ?_);refine Z2 (fun (p3 : Unit) => (⟨[], []⟩ : St)) h (fun p3 h => ?_) (fun J3 L3 hL3 h => ?_)
    · refine tD Z ?_;obtain rfl := h;exact Qf (hQ _ _ (Zq Z Z))
    · refine tk fun L hL => ?_;refine dN 1 Z ?_;refine u0 QA ?_;refine dN 1 Z ?_;refine rt (hL _ ?_);refine Qr ?_;refine Zn (fun (s4 : Int) => (⟨[(13, .c (.p (.l 2 (List.map QK a0)))), (14, .c (.p (.v (.int .i64 ((a0.length : Int)))))), (15, .c (.p (.v (.int .i64 s4))))], []⟩ : St)) h QC.fit (fun X4 L4 hL4 s4 h => ?_);refine tD Z ?_;refine sk fun L5 hL5 => ?_;refine cn h (fun h => ?_) fun h => ?_
      · refine Qh (hL5 _ ?_);refine sk fun L6 hL6 => ?_;refine Qr ?_;refine tk fun L hL => ?_;obtain ⟨v7, hv7, h⟩ := h;refine u0 (QB hv7) ?_;refine dN 3 Z ?_;refine rt (hL _ ?_);refine tk fun L hL => ?_;refine dN 1 Z ?_;obtain ⟨v8, hv8, h⟩ := h;refine u0 (QR (AU hv8)) ?_;refine dN 1 Z ?_;refine rt (hL _ ?_);refine tD Z ?_;refine cn h (fun h => ?_) fun h => ?_
        · refine tD Z ?_;obtain rfl := h;exact Qf (hQ _ _ (Zq Z Z))
        · refine Qh (hL6 _ ?_);refine tE Z (hL4 _ _ h QC.fit)
      · refine QP (hL3 _ _ h QC.fit)
def YJ (a0 : (List Int)) (a1 : Int) (Q : Int → Prop) : Prop :=
 (((decide (((a0.length : Int)) > a1)) = true → Q 11) ∧ ((decide (((a0.length : Int)) > a1)) = false → Q 0))
def Je (a0 : (List Int)) (a1 : Int) (r : Int) : Prop := YJ a0 a1 fun x => r = x
theorem Uf {a0 : (List Int)} {a1 : Int} {r : Int} (h : Je a0 a1 r) : Qp Tryz.prog 72 [.c (.l 1 (List.map (eI .u8) a0)), .c (.v (.int .i64 a1))] [.c (.p (.v (.int .i64 r)))] [] := by
  refine Qn tb Tryz.func72 Z (by kernel_rfl) Z Z (Nat.le_of_ble_eq_true Z) Z ?_;intro E;unfold Je YJ at h;refine Z3 (fun Q hQ => ?_);refine tD Z ?_;refine sk fun L1 hL1 => ?_;refine tk fun L hL => ?_;refine dN 1 Z ?_;refine u0 QA ?_;refine dN 2 Z ?_;refine rt (hL _ ?_);refine cn h (fun h => ?_) fun h => ?_
  · refine tD Z ?_;obtain rfl := h;exact Qf (hQ _ _ (Zq Z Z))
  · refine Qh (hL1 _ ?_);refine tD Z ?_;obtain rfl := h;exact Qf (hQ _ _ (Zq Z Z))
def W7 (a0 : Qu) (Q : Int → Prop) : Prop :=
 ((((bif decide (a0.fo < 1) then true else decide (a0.fo > 7))) = true → Q 8) ∧ (((bif decide (a0.fo < 1) then true else decide (a0.fo > 7))) = false → ∃ (v3 : Bool), (((bif (a0.fo == 2) then true else (a0.fo == 6))) = true → X0 a0.fa1 v3) ∧ ((((bif (bif (a0.fo == 2) then true else (a0.fo == 6)) then !(v3) else false)) = true → Q 7) ∧ (((bif (bif (a0.fo == 2) then true else (a0.fo == 6)) then !(v3) else false)) = false → ((((bif (a0.fo == 5) then (bif decide (a0.f0 < 0) then true else decide (a0.f0 > 32)) else false)) = true → Q 5) ∧ (((bif (a0.fo == 5) then (bif decide (a0.f0 < 0) then true else decide (a0.f0 > 32)) else false)) = false → ((((bif (a0.fo == 7) then (bif (bif (bif decide (a0.fb9 < 1) then true else decide (a0.fb9 > 1000000)) then true else decide (a0.fc0 < 0)) then true else decide (a0.fc0 > a0.fb9)) else false)) = true → Q 5) ∧ (((bif (a0.fo == 7) then (bif (bif (bif decide (a0.fb9 < 1) then true else decide (a0.fb9 > 1000000)) then true else decide (a0.fc0 < 0)) then true else decide (a0.fc0 > a0.fb9)) else false)) = false → ((((bif (bif (bif !((bif (a0.fo == 2) then true else (a0.fo == 6))) then (!(a0.fa1.toList == ((⟨#[]⟩ : ByteArray)).toList)) else false) then true else (bif !((a0.fo == 5)) then (a0.f0 != 0) else false)) then true else (bif !((a0.fo == 7)) then (bif (a0.fc0 != 0) then true else (a0.fb9 != 0)) else false))) = true → Q 18) ∧ (((bif (bif (bif !((bif (a0.fo == 2) then true else (a0.fo == 6))) then (!(a0.fa1.toList == ((⟨#[]⟩ : ByteArray)).toList)) else false) then true else (bif !((a0.fo == 5)) then (a0.f0 != 0) else false)) then true else (bif !((a0.fo == 7)) then (bif (a0.fc0 != 0) then true else (a0.fb9 != 0)) else false))) = false → Q 0))))))))))
def Vi (a0 : Qu) (r : Int) : Prop := W7 a0 fun x => r = x
theorem DK {a0 : Qu} {r : Int} (h : Vi a0 r) : Qp Tryz.prog 74 [.agg (Wl a0)] [.c (.p (.v (.int .i64 r)))] [] := by
  refine Qn tb Tryz.func74 Z (by kernel_rfl) Z Z (Nat.le_of_ble_eq_true Z) Z ?_;intro E;unfold Vi W7 at h;refine Z3 (fun Q hQ => ?_);refine tD Z ?_;refine sk fun L1 hL1 => ?_;refine tk fun L hL => ?_;refine dN 4 Z ?_;refine Q2 Z Z Q4 (fun hg => Q7 Z Z Z Z Z Z Z Z Z) ?_;refine Q2 Z Z Q4 (fun hg => Q3 (Qa hg) Z Z Z Z Z) ?_;refine Q2 Z Z Q4 (fun hg => Qz (c := decide (a0.fo > 7)) (Qa hg) Z Z Z Z) ?_;refine u0 (Qm (v := .bool true) (w := .bool (decide (a0.fo > 7))) Z Z Q4 Z Qw) ?_;refine rt (hL _ ?_);refine cn h (fun h => ?_) fun h => ?_
  · refine tD Z ?_;obtain rfl := h;exact Qf (hQ _ _ (Zq Z Z))
  · refine Qh (hL1 _ ?_);refine QQ (st' := ⟨[(1, .c (.ptr (1, 0) 0 0))], [((1, 0), some (.box (List.map CV.p (Wl a0))))]⟩) QC.fit ?_;refine tk fun L hL => ?_;refine dN 4 Z ?_;refine Q2 Z Z Q4 (fun hg => Q7 Z Z Z Z Z Z Z Z Z) ?_;refine Q2 Z Z Q4 (fun hg => Q3 (Qa hg) Z Z Z Z Z) ?_;refine Q2 Z Z Q4 (fun hg => Qz (c := (a0.fo == 6)) (Qa hg) Z Z Z Z) ?_;refine u0 (Qm (v := .bool true) (w := .bool ((a0.fo == 6))) Z Z Q4 Z Qw) ?_;refine dN 1 Z ?_;refine rt (hL _ ?_);refine dk mixed (fun L hL => ?_);refine dN 8 Z ?_;refine rd (hL _ ?_);refine sk fun L2 hL2 => ?_;refine Qr ?_;refine tk fun L hL => ?_;refine dN 2 Z ?_;refine Q2 Z Z Q8 (fun hg => Q7 Z Z Z Z Z Z Z Z Z) ?_;refine Q2 Z Z Q8 (fun hg => Q3 (Qa hg) Z Z Z Z Z) ?_;obtain ⟨v3, hv3, h⟩ := h;refine Q2 Z Z Q8 (fun hg => QN (BJ (hv3 hg)) Z Z (.cons (Zd hg (.c (.p _))) .nil) Z Z Z) ?_;refine Q2 Z Z Q8 (fun hg => QY (Qa hg) Z Z) ?_;refine u0 (Ql (v := .bool (!(v3))) (w := .bool false) Z Z Q8 Z Qw) ?_;refine dN 1 Z ?_;refine rt (hL _ ?_);refine cn h (fun h => ?_) fun h => ?_
    · refine tD Z ?_;obtain rfl := h;exact Qf (hQ _ _ (Zq Z Z))
    · refine tk fun L hL => ?_;refine dN 2 Z ?_;refine Q2 Z Z Q8 (fun hg => Q7 Z Z Z Z Z Z Z Z Z) ?_;refine Q2 Z Z Q8 (fun hg => Q3 (Qa hg) Z Z Z Z Z) ?_;refine Q2 Z Z Q8 (fun hg => Qz (c := decide (a0.f0 < 0)) (Qa hg) Z Z Z Z) ?_;refine Q2 Z Z Q8 (fun hg => Qc (Qa hg) Z) ?_;refine QD Z Z K5 (fun hg => Q7 Z Z Z Z Z Z Z Z Z) ?_;refine QD Z Z K5 (fun hg => Q3 (Qa hg) Z Z Z Z Z) ?_;refine QD Z Z K5 (fun hg => Qz (c := decide (a0.f0 > 32)) (Qa hg) Z Z Z Z) ?_;refine Q2 Z Z Q8 (fun hg => Qm (v := .bool true) (w := .bool (decide (a0.f0 > 32))) (Qa hg) Z (UQ hg) Z Qw Z Z Z) ?_;refine u0 (Ql (v := .bool ((bif decide (a0.f0 < 0) then true else decide (a0.f0 > 32)))) (w := .bool false) Z Z Q8 Z Qw) ?_;refine dN 1 Z ?_;refine rt (hL _ ?_);refine cn h (fun h => ?_) fun h => ?_
      · refine tD Z ?_;obtain rfl := h;exact Qf (hQ _ _ (Zq Z Z))
      · refine tk fun L hL => ?_;refine dN 2 Z ?_;refine Q2 Z Z Q8 (fun hg => Q7 Z Z Z Z Z Z Z Z Z) ?_;refine Q2 Z Z Q8 (fun hg => Q3 (Qa hg) Z Z Z Z Z) ?_;refine Q2 Z Z Q8 (fun hg => Qz (c := decide (a0.fb9 < 1)) (Qa hg) Z Z Z Z) ?_;refine Q2 Z Z Q8 (fun hg => Qc (Qa hg) Z) ?_;refine QD Z Z K5 (fun hg => Q7 Z Z Z Z Z Z Z Z Z) ?_;refine QD Z Z K5 (fun hg => Q3 (Qa hg) Z Z Z Z Z) ?_;refine QD Z Z K5 (fun hg => Qz (c := decide (a0.fb9 > 1000000)) (Qa hg) Z Z Z Z) ?_;refine Q2 Z Z Q8 (fun hg => Qm (v := .bool true) (w := .bool (decide (a0.fb9 > 1000000))) (Qa hg) Z (UQ hg) Z Qw Z Z Z) ?_;refine Q2 Z Z Q8 (fun hg => Qc (Qa hg) Z) ?_;refine QD Z Z K5 (fun hg => Q7 Z Z Z Z Z Z Z Z Z) ?_;refine QD Z Z K5 (fun hg => Q3 (Qa hg) Z Z Z Z Z) ?_;refine QD Z Z K5 (fun hg => Qz (c := decide (a0.fc0 < 0)) (Qa hg) Z Z Z Z) ?_;refine Q2 Z Z Q8 (fun hg => Qm (v := .bool true) (w := .bool (decide (a0.fc0 < 0))) (Qa hg) Z (UQ hg) Z Qw Z Z Z) ?_;refine Q2 Z Z Q8 (fun hg => Qc (Qa hg) Z) ?_
        refine QD Z Z K5 (fun hg => Q7 Z Z Z Z Z Z Z Z Z) ?_;refine QD Z Z K5 (fun hg => Q3 (Qa hg) Z Z Z Z Z) ?_;refine QD Z Z K5 (fun hg => Q7 Z Z Z Z Z Z Z Z Z) ?_;refine QD Z Z K5 (fun hg => Q3 (Qa hg) Z Z Z Z Z) ?_;refine QD Z Z K5 (fun hg => Qz (c := decide (a0.fc0 > a0.fb9)) (Qa hg) (Qa hg) Z Z Z) ?_;refine Q2 Z Z Q8 (fun hg => Qm (v := .bool true) (w := .bool (decide (a0.fc0 > a0.fb9))) (Qa hg) Z (UQ hg) Z Qw Z Z Z) ?_;refine u0 (Ql (v := .bool ((bif (bif (bif decide (a0.fb9 < 1) then true else decide (a0.fb9 > 1000000)) then true else decide (a0.fc0 < 0)) then true else decide (a0.fc0 > a0.fb9)))) (w := .bool false) Z Z Q8 Z Qw) ?_;refine dN 1 Z ?_;refine rt (hL _ ?_);refine QQ (st' := ⟨[(1, .c (.ptr (1, 0) 0 0)), (3, .c (.p (.v (.bool ((bif (a0.fo == 2) then true else (a0.fo == 6))))))), (4, .c (.p (.v (.bool ((a0.fo == 5)))))), (5, .c (.p (.v (.bool ((a0.fo == 7)))))), (48, .c (.p (.v (.bool ((bif (a0.fo == 7) then (bif (bif (bif decide (a0.fb9 < 1) then true else decide (a0.fb9 > 1000000)) then true else decide (a0.fc0 < 0)) then true else decide (a0.fc0 > a0.fb9)) else false))))))], [((1, 0), some (.box (List.map CV.p (Wl a0))))]⟩) QC.fit ?_
        refine cn h (fun h => ?_) fun h => ?_
        · refine tD Z ?_;obtain rfl := h;exact Qf (hQ _ _ (Zq Z Z))
        · refine tk fun L hL => ?_;refine dN 3 Z ?_;refine Q2 Z Z Q8 (fun hg => Q7 Z Z Z Z Z Z Z Z Z) ?_;refine Q2 Z Z Q8 (fun hg => Q3 (Qa hg) Z Z Z Z Z) ?_;refine Q2 Z Z Q8 (fun hg => Vt (c := (!(a0.fa1.toList == ((⟨#[]⟩ : ByteArray)).toList))) (Qa hg) Z Z Z Z) ?_;refine u0 (Ql (v := .bool ((!(a0.fa1.toList == ((⟨#[]⟩ : ByteArray)).toList)))) (w := .bool false) Z Z Q8 Z Qw) ?_;refine dN 1 Z ?_;refine Q2 Z Z Q4 (fun hg => Qc Z Z) ?_;refine Q2 Z Z Q4 (fun hg => QY (Qa hg) Z Z) ?_;refine Q2 Z Z Q4 (fun hg => Qc (Qa hg) Z) ?_;refine QD Z Z QL (fun hg => Q7 Z Z Z Z Z Z Z Z Z) ?_;refine QD Z Z QL (fun hg => Q3 (Qa hg) Z Z Z Z Z) ?_;refine QD Z Z QL (fun hg => Qz (c := (a0.f0 != 0)) (Qa hg) Z Z Z Z) ?_;refine Q2 Z Z Q4 (fun hg => Ql (v := .bool ((a0.f0 != 0))) (w := .bool false) (Qa hg) Z (Jy hg) Z Qw Z Z Z) ?_;refine u0 (Qm (v := .bool true) (w := .bool ((bif !((a0.fo == 5)) then (a0.f0 != 0) else false))) Z Z Q4 Z Qw) ?_;refine dN 1 Z ?_;refine Q2 Z Z Q4 (fun hg => Qc Z Z) ?_
          refine Q2 Z Z Q4 (fun hg => QY (Qa hg) Z Z) ?_;refine Q2 Z Z Q4 (fun hg => Qc (Qa hg) Z) ?_;refine QD Z Z QL (fun hg => Q7 Z Z Z Z Z Z Z Z Z) ?_;refine QD Z Z QL (fun hg => Q3 (Qa hg) Z Z Z Z Z) ?_;refine QD Z Z QL (fun hg => Qz (c := (a0.fc0 != 0)) (Qa hg) Z Z Z Z) ?_;refine QD Z Z QL (fun hg => Qc (Qa hg) Z) ?_;refine QD Z Z K5 (fun hg => Q7 Z Z Z Z Z Z Z Z Z) ?_;refine QD Z Z K5 (fun hg => Q3 (Qa hg) Z Z Z Z Z) ?_;refine QD Z Z K5 (fun hg => Qz (c := (a0.fb9 != 0)) (Qa hg) Z Z Z Z) ?_;refine QD Z Z QL (fun hg => Qm (v := .bool true) (w := .bool ((a0.fb9 != 0))) (Qa hg) Z (UQ hg) Z Qw Z Z Z) ?_;refine Q2 Z Z Q4 (fun hg => Ql (v := .bool ((bif (a0.fc0 != 0) then true else (a0.fb9 != 0)))) (w := .bool false) (Qa hg) Z (Jy hg) Z Qw Z Z Z) ?_;refine u0 (Qm (v := .bool true) (w := .bool ((bif !((a0.fo == 7)) then (bif (a0.fc0 != 0) then true else (a0.fb9 != 0)) else false))) Z Z Q4 Z Qw) ?_;refine dN 1 Z ?_;refine rt (hL _ ?_);refine cn h (fun h => ?_) fun h => ?_
          · refine tD Z ?_;obtain rfl := h;exact Qf (hQ _ _ (Zq Z Z))
          · refine Qh (hL2 _ ?_);refine QQ (st' := ⟨[], []⟩) QC.fit ?_;refine tD Z ?_;obtain rfl := h;exact Qf (hQ _ _ (Zq Z Z))
def YK (a0 : Qq) (a1 : Int) (Q : Int → Prop) : Prop :=
 ((((a1 == 0)) = true → ∃ v2, Jx a0.fb7 v2 ∧ Q v2) ∧ (((a1 == 0)) = false → ((((a1 == 1)) = true → ∃ v3, Jx a0.fj v3 ∧ Q v3) ∧ (((a1 == 1)) = false → ((((a1 == 2)) = true → ∃ v4, Vg a0.fa2 v4 ∧ Q v4) ∧ (((a1 == 2)) = false → ((((a1 == 3)) = true → ∃ v5, Ko a0.fb v5 ∧ Q v5) ∧ (((a1 == 3)) = false → ((((a1 == 4)) = true → ∃ v6, JU a0.f8 v6 ∧ Q v6) ∧ (((a1 == 4)) = false → ((((a1 == 5)) = true → ∃ v7, Je a0.fb5 64 v7 ∧ Q v7) ∧ (((a1 == 5)) = false → ((((a1 == 6)) = true → ∃ v8, Z9 a0.fa3 1 1048576 v8 ∧ Q v8) ∧ (((a1 == 6)) = false → ((((a1 == 7)) = true → ∃ v9, Z9 a0.fb0 1 1048576 v9 ∧ Q v9) ∧ (((a1 == 7)) = false → ((((a1 == 8)) = true → ∃ v10, Z9 a0.fa5 0 3 v10 ∧ Q v10) ∧ (((a1 == 8)) = false → ((((a1 == 9)) = true → ∃ v11, Z9 a0.fb6 0 15 v11 ∧ Q v11) ∧ (((a1 == 9)) = false → ((((a1 == 10)) = true → ∃ v12, Z9 a0.fa6 0 3 v12 ∧ Q v12) ∧ (((a1 == 10)) = false → ((((a1 == 11)) = true → ∃ v13, Z9 a0.f0 0 32 v13 ∧ Q v13) ∧ (((a1 == 11)) = false → ((((a1 == 12)) = true → ∃ v14, Vi a0.fv v14 ∧ Q v14) ∧ (((a1 == 12)) = false → ∃ v15, Je a0.fb4 65536 v15 ∧ Q v15))))))))))))))))))))))))))
def JV (a0 : Qq) (a1 : Int) (r : Int) : Prop := YK a0 a1 fun x => r = x
theorem D5 {a0 : Qq} {a1 : Int} {r : Int} (h : JV a0 a1 r) : Qp Tryz.prog 42 [.agg (Zi a0), .c (.v (.int .i64 a1))] [.c (.p (.v (.int .i64 r)))] [] := by
  refine Qn tb Tryz.func42 Z (by kernel_rfl) Z Z (Nat.le_of_ble_eq_true Z) Z ?_;intro E;unfold JV YK at h;refine Z3 (fun Q hQ => ?_);refine tD Z ?_;refine sk fun L1 hL1 => ?_;refine tD Z ?_;refine Qr ?_;refine tD Z ?_;refine cn h (fun h => ?_) fun h => ?_
  · refine tk fun L hL => ?_;refine dN 2 Z ?_;obtain ⟨v2, hv2, h⟩ := h;refine u0 (QR (W5 hv2)) ?_;refine dN 1 Z ?_;refine rt (hL _ ?_);obtain rfl := h;exact Qf (hQ _ _ (Zq Z Z))
  · refine tD Z ?_;refine cn h (fun h => ?_) fun h => ?_
    · refine tk fun L hL => ?_;refine dN 2 Z ?_;obtain ⟨v3, hv3, h⟩ := h;refine u0 (QR (W5 hv3)) ?_;refine dN 1 Z ?_;refine rt (hL _ ?_);obtain rfl := h;exact Qf (hQ _ _ (Zq Z Z))
    · refine tD Z ?_;refine cn h (fun h => ?_) fun h => ?_
      · refine tk fun L hL => ?_;refine dN 2 Z ?_;obtain ⟨v4, hv4, h⟩ := h;refine u0 (QR (DJ hv4)) ?_;refine dN 1 Z ?_;refine rt (hL _ ?_);obtain rfl := h;exact Qf (hQ _ _ (Zq Z Z))
      · refine tD Z ?_;refine cn h (fun h => ?_) fun h => ?_
        · refine tk fun L hL => ?_;refine dN 2 Z ?_;obtain ⟨v5, hv5, h⟩ := h;refine u0 (QR (UH hv5)) ?_;refine dN 1 Z ?_;refine rt (hL _ ?_);obtain rfl := h;exact Qf (hQ _ _ (Zq Z Z))
        · refine tD Z ?_;refine cn h (fun h => ?_) fun h => ?_
          · refine tk fun L hL => ?_;refine dN 2 Z ?_;obtain ⟨v6, hv6, h⟩ := h;refine u0 (QR (D4 hv6)) ?_;refine dN 1 Z ?_;refine rt (hL _ ?_);obtain rfl := h;exact Qf (hQ _ _ (Zq Z Z))
          · refine tD Z ?_;refine cn h (fun h => ?_) fun h => ?_
            · refine tk fun L hL => ?_;refine dN 2 Z ?_;obtain ⟨v7, hv7, h⟩ := h;refine u0 (QR (Uf hv7)) ?_;refine dN 1 Z ?_;refine rt (hL _ ?_);obtain rfl := h;exact Qf (hQ _ _ (Zq Z Z))
            · refine tD Z ?_;refine cn h (fun h => ?_) fun h => ?_
              · refine tk fun L hL => ?_;refine dN 2 Z ?_;obtain ⟨v8, hv8, h⟩ := h;refine u0 (QR (ZG hv8)) ?_;refine dN 1 Z ?_;refine rt (hL _ ?_);obtain rfl := h;exact Qf (hQ _ _ (Zq Z Z))
              · refine tD Z ?_;refine cn h (fun h => ?_) fun h => ?_
                · refine tk fun L hL => ?_;refine dN 2 Z ?_;obtain ⟨v9, hv9, h⟩ := h;refine u0 (QR (ZG hv9)) ?_;refine dN 1 Z ?_;refine rt (hL _ ?_);obtain rfl := h;exact Qf (hQ _ _ (Zq Z Z))
                · refine tD Z ?_;refine cn h (fun h => ?_) fun h => ?_
                  · refine tk fun L hL => ?_;refine dN 2 Z ?_;obtain ⟨v10, hv10, h⟩ := h;refine u0 (QR (ZG hv10)) ?_;refine dN 1 Z ?_;refine rt (hL _ ?_);obtain rfl := h;exact Qf (hQ _ _ (Zq Z Z))
                  · refine tD Z ?_;refine cn h (fun h => ?_) fun h => ?_
                    · refine tk fun L hL => ?_;refine dN 2 Z ?_;obtain ⟨v11, hv11, h⟩ := h;refine u0 (QR (ZG hv11)) ?_;refine dN 1 Z ?_;refine rt (hL _ ?_);obtain rfl := h;exact Qf (hQ _ _ (Zq Z Z))
                    · refine tD Z ?_;refine cn h (fun h => ?_) fun h => ?_
                      · refine tk fun L hL => ?_;refine dN 2 Z ?_;obtain ⟨v12, hv12, h⟩ := h;refine u0 (QR (ZG hv12)) ?_;refine dN 1 Z ?_;refine rt (hL _ ?_);obtain rfl := h;exact Qf (hQ _ _ (Zq Z Z))
                      · refine tD Z ?_;refine cn h (fun h => ?_) fun h => ?_
                        · refine tk fun L hL => ?_;refine dN 2 Z ?_;obtain ⟨v13, hv13, h⟩ := h;refine u0 (QR (ZG hv13)) ?_;refine dN 1 Z ?_;refine rt (hL _ ?_);obtain rfl := h;exact Qf (hQ _ _ (Zq Z Z))
                        · refine tD Z ?_;refine cn h (fun h => ?_) fun h => ?_
                          · refine tk fun L hL => ?_;refine dN 2 Z ?_;obtain ⟨v14, hv14, h⟩ := h;refine u0 (QR (DK hv14)) ?_;refine dN 1 Z ?_;refine rt (hL _ ?_);obtain rfl := h;exact Qf (hQ _ _ (Zq Z Z))
                          · refine Qh (hL1 _ ?_);refine tk fun L hL => ?_;refine dN 2 Z ?_;obtain ⟨v15, hv15, h⟩ := h;refine u0 (QR (Uf hv15)) ?_;refine dN 1 Z ?_;refine rt (hL _ ?_);obtain rfl := h;exact Qf (hQ _ _ (Zq Z Z))
end Go.Proofs.YtpnpodbihdiegaaGreat

namespace Go.Proofs.YtpnpodbihdiegaaGreat
open Go.RowKit
def BK (b : Nat) (cs : Array Value) (t : TypeId) (w : World) : Prop := w.heap[b]? = some (.cells cs t (0, 0))
theorem BK.lt {b : Nat} {cs : Array Value} {t : TypeId} {w : World} (h : BK b cs t w) : b < w.heap.size := by
  unfold BK at h
  exact (Array.getElem?_eq_some_iff.mp h).1
theorem BK.cell {b : Nat} {cs : Array Value} {t : TypeId} {w : World} (h : BK b cs t w) (i : Nat) {v : Value} (hi : cs[i]? = some v) : w.cell? ⟨b, i, none⟩ = some v := by
  unfold BK at h
  simp [World.cell?, h, hi]
theorem BK.froz {b : Nat} {cs : Array Value} {t : TypeId} {w : World} (h : BK b cs t w) (i : Nat) : w.frozen? ⟨b, i, none⟩ = false := by
  unfold BK at h
  simp [World.frozen?, h]
theorem BK.keep {b : Nat} {cs : Array Value} {t : TypeId} {w w' : World} (h : BK b cs t w) (g : w.grownBy w' none) : BK b cs t w' := by
  have := g.block b h.lt (by simp)
  unfold BK at *
  rw [this]; exact h
theorem BK.new (w : World) (cs : Array Value) (t : TypeId) : BK w.heap.size cs t (w.alloc (.cells cs t)) := by
  unfold BK
  show (w.heap.push (.cells cs t))[w.heap.size]? = _
  simp
theorem BK.set {b : Nat} {cs : Array Value} {t : TypeId} {w : World} (h : BK b cs t w) (o : Nat) (v : Value) : BK b (cs.setIfInBounds o v) t (w.setCell ⟨b, o, none⟩ v) := by
  unfold BK at *
  simp [World.setCell, Array.getElem?_modify, h]
theorem BK.drew {b : Nat} {cs : Array Value} {t : TypeId} {w : World} (h : BK b cs t w) : BK b cs t w.drew := h
def Row (k : IntKind) (t : TypeId) (g : Nat) (l : List Int) (w : World) : Prop := ∃ cur : Array Value, BK g cur t w ∧ l.length ≤ cur.size ∧ ∀ i, i < l.length → cur[i]? = some (.int k (gI l i))
theorem Row.keep {k : IntKind} {t : TypeId} {g : Nat} {l : List Int} {w w' : World} (h : Row k t g l w) (hg : w.grownBy w' none) : Row k t g l w' := by
  obtain ⟨cur, h1, h2⟩ := h
  exact ⟨cur, h1.keep hg, h2⟩
theorem Row.drew {k : IntKind} {t : TypeId} {g : Nat} {l : List Int} {w : World} (h : Row k t g l w) : Row k t g l w.drew := h
theorem Row.lt {k : IntKind} {t : TypeId} {g : Nat} {l : List Int} {w : World} (h : Row k t g l w) : g < w.heap.size := by
  obtain ⟨cur, h1, h2⟩ := h
  exact h1.lt
theorem Row.cell {k : IntKind} {t : TypeId} {g : Nat} {l : List Int} {w : World} (h : Row k t g l w) {i : Nat} (hi : i < l.length) : w.cell? ⟨g, i, none⟩ = some (.int k (gI l i)) := by
  obtain ⟨cur, h1, h2, h3⟩ := h
  exact h1.cell i (h3 i hi)
theorem Row.froz {k : IntKind} {t : TypeId} {g : Nat} {l : List Int} {w : World} (h : Row k t g l w) (i : Nat) : w.frozen? ⟨g, i, none⟩ = false := by
  obtain ⟨cur, h1, _⟩ := h
  exact h1.froz i
theorem Row.set {k : IntKind} {t : TypeId} {g : Nat} {l : List Int} {w : World} (h : Row k t g l w) (i : Nat) (x : Int) : Row k t g (l.set i x) (w.setCell ⟨g, i, none⟩ (.int k x)) := by
  obtain ⟨cur, h1, h2, h3⟩ := h
  refine ⟨_, h1.set i (.int k x), by simpa using h2, fun j hj => ?_⟩
  simp only [List.length_set] at hj
  rw [Array.getElem?_setIfInBounds]
  by_cases e : i = j
  · subst e
    rw [if_pos rfl, if_pos (by omega)]
    simp [gI, List.getD_eq_getElem?_getD, List.getElem?_set, hj]
  · rw [if_neg e, h3 j hj]
    simp [gI, List.getD_eq_getElem?_getD, List.getElem?_set, e]
def Mi (p q : Nat) (w w' : World) : Prop := w'.os = w.os ∧ w'.tape = w.tape ∧ w'.output = w.output ∧ w.heap.size ≤ w'.heap.size ∧ ∀ k, k < w.heap.size → k ≠ p → k ≠ q → w'.heap[k]? = w.heap[k]?
theorem Mi.refl (p q : Nat) (w : World) : Mi p q w w := ⟨rfl, rfl, rfl, Nat.le_refl _, fun _ _ _ _ => rfl⟩
theorem Mi.size {p q : Nat} {w w' : World} (h : Mi p q w w') : w.heap.size ≤ w'.heap.size := h.2.2.2.1
theorem Mi.grown {p q : Nat} {w w1 w2 : World} (h : Mi p q w w1) (g : w1.grownBy w2 none) : Mi p q w w2 := by
  obtain ⟨h1, h2, h3, h4, h5⟩ := h
  exact ⟨g.os.trans h1, g.tape.trans h2, g.output.trans h3, Nat.le_trans h4 g.size, fun k hk hp hq => (g.block k (Nat.lt_of_lt_of_le hk h4) (by simp)).trans (h5 k hk hp hq)⟩
theorem Mi.drew {p q : Nat} {w w1 : World} (h : Mi p q w w1) : Mi p q w w1.drew := h
end Go.Proofs.YtpnpodbihdiegaaGreat
namespace Go.Proofs.YtpnpodbihdiegaaGreat
open Go.RowKit Go.ChangeShapes Go.WideShapes
def Yh (k : Int) : List Int :=
  if k = 1 then [0, 3] else if k = 2 then [0] else if k = 3 then [0, 1] else if k = 5 then [0, 12] else if k = 6 then [0, 4, 5] else if k = 7 then [0, 1, 5] else if k = 8 then [0, 1, 5, 6, 7]
  else if k = 9 then [2] else if k = 10 then [8, 9, 12] else if k = 11 then [8] else if k = 12 ∨ k = 15 then [8, 9] else if k = 13 then [10, 11] else if k = 14 then [10] else if k = 16 then [0, 13] else []
def Kp (k : Int) : Prop := 1 ≤ k ∧ k ≤ 17
instance (k : Int) : Decidable (Kp k) := by unfold Kp; infer_instance
theorem H6 {k : Int} (h : Kp k) : k = 1 ∨ k = 2 ∨ k = 3 ∨ k = 4 ∨ k = 5 ∨ k = 6 ∨ k = 7 ∨ k = 8 ∨ k = 9 ∨ k = 10 ∨ k = 11 ∨ k = 12 ∨ k = 13 ∨ k = 14 ∨ k = 15 ∨ k = 16 ∨ k = 17 := by
  obtain ⟨h1, h2⟩ := h; omega
theorem Ot {k : Int} (h : ¬ Kp k) : (k == 1) = false ∧ (k == 2) = false ∧ (k == 3) = false ∧ (k == 4) = false ∧ (k == 5) = false ∧ (k == 6) = false ∧ (k == 7) = false ∧ (k == 8) = false ∧ (k == 9) = false ∧ (k == 10) = false ∧ (k == 11) = false ∧ (k == 12) = false ∧ (k == 13) = false ∧ (k == 14) = false ∧ (k == 15) = false ∧ (k == 16) = false ∧ (k == 17) = false := by
  unfold Kp at h
  refine ⟨?_, ?_, ?_, ?_, ?_, ?_, ?_, ?_, ?_, ?_, ?_, ?_, ?_, ?_, ?_, ?_, ?_⟩ <;> exact beq_eq_false_iff_ne.2 (by omega)
theorem N8 {P : Program} {T e : TypeId} (hT : P.underlying T = some (.slice e)) (d : Nat) (a : Addr) (n c : Nat) (w : World) : Sem.run P (Op.equalIn (d + 1) T (.slice (some a) n c) (.slice none 0 0)) w = .ok false w := by
  simp [Op.equalIn, run_underlying hT]
theorem Ou {P : Program} {T e : TypeId} (hT : P.underlying T = some (.slice e)) (a : Addr) (n c : Nat) (w : World) : Sem.run P (binOp .eql T (.slice (some a) n c) (.slice none 0 0)) w = .ok (.bool false) w := by
  have h := N8 hT 9999 a n c w
  show Sem.run P (do let b ← Op.equalIn (9999 + 1) T (.slice (some a) n c) (.slice none 0 0); pure (Value.bool b) : Sem Value) w = _
  generalize Op.equalIn (9999 + 1) T (.slice (some a) n c) (.slice none 0 0) = q at *
  simp [h]
theorem Mj {P : Program} {T e : TypeId} (hT : P.underlying T = some (.slice e)) (d : Nat) (w : World) : Sem.run P (Op.equalIn (d + 1) T (.slice none 0 0) (.slice none 0 0)) w = .ok true w := by
  simp [Op.equalIn, run_underlying hT]
theorem N9 {P : Program} {T e : TypeId} (hT : P.underlying T = some (.slice e)) (w : World) : Sem.run P (binOp .eql T (.slice none 0 0) (.slice none 0 0)) w = .ok (.bool true) w := by
  have h := Mj hT 9999 w
  show Sem.run P (do let b ← Op.equalIn (9999 + 1) T (.slice none 0 0) (.slice none 0 0); pure (Value.bool b) : Sem Value) w = _
  generalize Op.equalIn (9999 + 1) T (.slice none 0 0) (.slice none 0 0) = q at *
  simp [h]
theorem Na (w : World) (e : TypeId) (l : List Int) (cs : Array Value) (n : Nat) (h : cs.toList = l.map (.int .i64)) (hl : l.length = n) (hn : n ≤ 100) : (w.alloc (.cells cs e)).ownsRow w.heap.size e 1 (.slice (some ⟨w.heap.size, 0, none⟩) n n) n (l.map (.int .i64)) := by
  have hs : cs.size = n * 1 := by rw [← Array.length_toList, h, List.length_map, hl, Nat.mul_one]
  have := World.ownsRow_lit (e := e) w cs n (Nat.le_refl _) (by unfold maxLen; omega) (by omega)
  rw [h] at this
  exact this
set_option maxRecDepth 100000 in
set_option maxHeartbeats 1600000 in
theorem Nb (k : Int) (w : World) (hk : Kp k) :
    Calls Tryz.prog 41 #[.int .i64 k] w fun e w' => ∃ a, e = .returned (.slice (some a) (Yh k).length (Yh k).length) ∧ Ints .i64 w' (.slice (some a) (Yh k).length (Yh k).length) (Yh k) ∧ w.grownBy w' none := by
  rcases H6 hk with rfl | rfl | rfl | rfl | rfl | rfl | rfl | rfl | rfl | rfl | rfl | rfl | rfl | rfl | rfl | rfl | rfl
  all_goals
    go_enter Tryz.func41, Tryz.ntmps41
    go_wp2
    go_ret
    exact ⟨_, rfl, Hq (Na w _ _ _ _ rfl rfl (by decide)) (by decide), Wd _ _⟩
set_option maxRecDepth 100000 in
theorem Ov (k : Int) (w : World) (hk : ¬ Kp k) :
    Calls Tryz.prog 41 #[.int .i64 k] w fun e w' => e = .returned (.slice none 0 0) ∧ w = w' := by
  obtain ⟨k1, k2, k3, k4, k5, k6, k7, k8, k9, k10, k11, k12, k13, k14, k15, k16, k17⟩ := Ot hk
  clear hk
  go_enter Tryz.func41, Tryz.ntmps41
  go_wp2
  go_ret
  exact ⟨rfl, rfl⟩
end Go.Proofs.YtpnpodbihdiegaaGreat
namespace Go.Proofs.YtpnpodbihdiegaaGreat
open Go.RowKit Go.ChangeShapes Go.WideShapes
structure OpD where
  kind : Int
  name : ByteArray
  other : ByteArray
  names : List ByteArray
  pk : Int
  ps : Int
  pd : Int
  pz : Int
  items : List (ByteArray × Int)
  coins : List Int
  ex : Int
  so : Int
  ha : Int
  ix : Int
  cu : Int
  co : Int
  qk : Int
  qs : ByteArray
  qc : Int
  qn : Int
  qd : Int
  data : List Int
def opV (o : OpD) (vn vi vc vd : Value) : Value :=
  .agg #[.int .i64 o.kind, .string o.name, .string o.other, vn, .int .i64 o.pk, .int .i64 o.ps, .int .i64 o.pd, .int .u64 o.pz, vi, vc, .int .i64 o.ex, .int .i64 o.so, .int .i64 o.ha, .int .i64 o.ix, .int .i64 o.cu, .int .i64 o.co, .int .i64 o.qk, .string o.qs, .int .i64 o.qc, .int .i64 o.qn, .int .i64 o.qd, vd]
def Sl (v : Value) (n : Nat) : Prop := ∃ a cap, v = .slice a n cap
def Cz (o : OpD) (f : Nat) : Bool :=
  match f with
  | 0 => o.name.toList == []
  | 1 => o.other.toList == []
  | 2 => decide (o.names.length = 0)
  | 3 => decide (o.pk = 0 ∧ o.ps = 0 ∧ o.pd = 0 ∧ o.pz = 0)
  | 4 => decide (o.items.length = 0)
  | 5 => decide (o.coins.length = 0)
  | 6 => decide (o.ex = 0)
  | 7 => decide (o.so = 0)
  | 8 => decide (o.ha = 0)
  | 9 => decide (o.ix = 0)
  | 10 => decide (o.cu = 0)
  | 11 => decide (o.co = 0)
  | 12 => decide (o.qk = 0 ∧ o.qs.toList = [] ∧ o.qc = 0 ∧ o.qn = 0 ∧ o.qd = 0)
  | _ => decide (o.data.length = 0)
theorem len0 (n : Nat) : ((n : Int) == 0) = decide (n = 0) := by
  by_cases h : n = 0
  · subst h; rfl
  · rw [decide_eq_false h]; exact beq_eq_false_iff_ne.2 (by omega)
theorem YL {f : Nat} (h : f < 14) : f = 0 ∨ f = 1 ∨ f = 2 ∨ f = 3 ∨ f = 4 ∨ f = 5 ∨ f = 6 ∨ f = 7 ∨ f = 8 ∨ f = 9 ∨ f = 10 ∨ f = 11 ∨ f = 12 ∨ f = 13 := by omega
set_option maxRecDepth 100000 in
set_option maxHeartbeats 1600000 in
theorem Nc (o : OpD) (f : Nat) (vn vi vc vd : Value) (w : World) (hf : f < 14) (h1 : Sl vn o.names.length) (h2 : Sl vi o.items.length) (h3 : Sl vc o.coins.length) (h4 : Sl vd o.data.length) :
    Calls Tryz.prog 43 #[opV o vn vi vc vd, .int .i64 f] w fun e w' => e = .returned (.bool (Cz o f)) ∧ w.grownBy w' none := by
  obtain ⟨an, cn, rfl⟩ := h1
  obtain ⟨ai, ci, rfl⟩ := h2
  obtain ⟨ac, cc, rfl⟩ := h3
  obtain ⟨ad, cd, rfl⟩ := h4
  unfold opV
  obtain ⟨kind, name, other, names, pk, ps, pd, pz, items, coins, ex, so, ha, ix, cu, co, qk, qs, qc, qn, qd, data⟩ := o
  simp only
  rcases YL hf with rfl | rfl | rfl | rfl | rfl | rfl | rfl | rfl | rfl | rfl | rfl | rfl | rfl | rfl
  all_goals
    go_enter Tryz.func43, Tryz.ntmps43
    go_wp2
    all_goals
      go_ret
      refine ⟨ret_b ?_, Wd _ _⟩
      first | rfl | exact len0 _ | (simp [Cz]; done) | (simp_all [Cz]; done) | (simp [Cz]; omega) | (simp_all [Cz]; omega)
def Nf (B : Nat) (v : Value) : Prop := ∀ a n c, v = .slice (some a) n c → B ≤ a.block
theorem Ints.set {k : IntKind} {w : World} {b off n c : Nat} {l : List Int} (h : Ints k w (.slice (some ⟨b, off, none⟩) n c) l) {b' o : Nat} (u : Value) (hne : b ≠ b') : Ints k (w.setCell ⟨b', o, none⟩ u) (.slice (some ⟨b, off, none⟩) n c) l := by
  obtain ⟨a, cap, he, h1, h2, h3, h4⟩ := h
  refine ⟨a, cap, he, h1, h2, h3, ?_⟩
  rcases h4 with h4 | ⟨b2, off2, hb2, hlt, hc⟩
  · exact .inl h4
  · refine .inr ⟨b2, off2, hb2, by simpa using hlt, fun i hi => ?_⟩
    cases he
    cases hb2
    have := hc i hi
    simp [go_sem, hne]
    simpa using this
theorem Nf.mono {B B' : Nat} {v : Value} (h : Nf B v) (hb : B' ≤ B) : Nf B' v := fun a n c e => Nat.le_trans hb (h a n c e)
theorem Ints.at {k : IntKind} {w : World} {a : Option Addr} {n cap : Nat} {l : List Int} (h : Ints k w (.slice a n cap) l) (hl : 0 < l.length) : ∃ b off, a = some ⟨b, off, none⟩ ∧ b < w.heap.size ∧ ∀ i, i < l.length → w.cell? ⟨b, off + i, none⟩ = some (.int k (gI l i)) := by
  obtain ⟨a', cap', e, h1, h2, h3, h4⟩ := h
  injection e with e1 e2 e3
  subst e1
  rcases h4 with rfl | h4
  · simp at hl
  · exact h4
theorem Mi.own {p q : Nat} {w w1 w2 w3 : World} {r : Option Nat} (h : Mi p q w w1) (g : w1.grownBy w2 none) (g' : w2.grownBy w3 r) (hr : ∀ k, r = some k → w.heap.size ≤ k) : Mi p q w w3 := by
  obtain ⟨h1, h2, h3, h4, h5⟩ := h.grown g
  exact ⟨g'.os.trans h1, g'.tape.trans h2, g'.output.trans h3, Nat.le_trans h4 g'.size, fun k hk hp hq => (g'.block k (Nat.lt_of_lt_of_le hk h4) (fun e => by have := hr k e.symm; omega)).trans (h5 k hk hp hq)⟩
theorem BK.own {b : Nat} {cs : Array Value} {t : TypeId} {w w' : World} {r : Option Nat} (h : BK b cs t w) (g : w.grownBy w' r) (hne : r ≠ some b) : BK b cs t w' := by
  have := g.block b h.lt (fun e => hne e.symm)
  unfold BK at *
  rw [this]; exact h
end Go.Proofs.YtpnpodbihdiegaaGreat
namespace Go.Proofs.YtpnpodbihdiegaaGreat
open Go.RowKit Go.ChangeShapes Go.WideShapes
def ZZ (k : Int) (f : Nat) : Bool := (Yh k).contains (f : Int)
def UN : List Int → Int
  | [] => 0
  | e :: r => if e ≠ 0 then e else UN r
def A5 (k : Int) (C : Nat → Int) : List Int := (List.range 14).map fun f => if ZZ k f = true then C f else 0
def FY (o : OpD) (C : Nat → Int) : Int :=
  if ¬ Kp o.kind then 8 else if UN (A5 o.kind C) ≠ 0 then UN (A5 o.kind C) else if (List.range 14).all (fun f => ZZ o.kind f || Cz o f) = true then 0 else 18
theorem LH {k : Int} (hk : ¬ Kp k) : Yh k = [] := by
  unfold Kp at hk
  unfold Yh
  repeat rw [if_neg (by omega)]
theorem Ng (k : Int) : (Yh k).all (fun x => decide (0 ≤ x ∧ x ≤ 13)) = true := by
  by_cases hk : Kp k
  · rcases H6 hk with rfl | rfl | rfl | rfl | rfl | rfl | rfl | rfl | rfl | rfl | rfl | rfl | rfl | rfl | rfl | rfl | rfl <;> decide
  · rw [LH hk]; rfl
theorem Ow {k : Int} {x : Int} (h : x ∈ Yh k) : 0 ≤ x ∧ x ≤ 13 := of_decide_eq_true (List.all_eq_true.1 (Ng k) x h)
theorem Nh (k : Int) : (Yh k).length ≤ 5 := by
  by_cases hk : Kp k
  · rcases H6 hk with rfl | rfl | rfl | rfl | rfl | rfl | rfl | rfl | rfl | rfl | rfl | rfl | rfl | rfl | rfl | rfl | rfl <;> decide
  · rw [LH hk]; simp
theorem Ie {L : List Int} (h : ∀ i, i < L.length → gI L i = 0) : UN L = 0 := by
  induction L with
  | nil => rfl
  | cons e r ih =>
    have h0 := h 0 (by simp)
    have h1 : e = 0 := h0
    unfold UN
    rw [if_neg (by simp [h1])]
    exact ih fun i hi => h (i + 1) (by simp; omega)
theorem PK {L : List Int} {k : Nat} (hk : k < L.length) (h : ∀ i, i < k → gI L i = 0) (hn : gI L k ≠ 0) : UN L = gI L k := by
  induction L generalizing k with
  | nil => simp at hk
  | cons e r ih =>
    unfold UN
    cases k with
    | zero => have h1 : e ≠ 0 := hn; rw [if_pos h1]; rfl
    | succ k =>
      have h1 : e = 0 := h 0 (by omega)
      rw [if_neg (by simp [h1])]
      exact ih (by simpa using hk) (fun i hi => h (i + 1) (by omega)) hn
theorem Fh (k : Int) (C : Nat → Int) : (A5 k C).length = 14 := by simp [A5]
theorem LI (k : Int) (C : Nat → Int) {f : Nat} (h : f < 14) : gI (A5 k C) f = if ZZ k f = true then C f else 0 := by
  rw [CB (by rw [Fh]; exact h)]; simp [A5]
def LJ (b : Nat) (S : List Int) (w : World) : Prop := ∃ cs : Array Value, BK b cs 100 w ∧ cs.size = 14 ∧ ∀ f, f < 14 → cs[f]? = some (.bool (S.contains (f : Int)))
theorem LJ.keep {b : Nat} {S : List Int} {w w' : World} (h : LJ b S w) (g : w.grownBy w' none) : LJ b S w' := by
  obtain ⟨cs, h1, h2⟩ := h
  exact ⟨cs, h1.keep g, h2⟩
theorem LJ.cell {b : Nat} {S : List Int} {w : World} (h : LJ b S w) {f : Nat} (hf : f < 14) : w.cell? ⟨b, f, none⟩ = some (.bool (S.contains (f : Int))) := by
  obtain ⟨cs, h1, h2, h3⟩ := h
  exact h1.cell f (h3 f hf)
theorem LJ.froz {b : Nat} {S : List Int} {w : World} (h : LJ b S w) (f : Nat) : w.frozen? ⟨b, f, none⟩ = false := by
  obtain ⟨cs, h1, _⟩ := h
  exact h1.froz f
theorem LJ.set {b : Nat} {S : List Int} {w : World} (h : LJ b S w) {x : Nat} (hx : x < 14) : LJ b (S ++ [(x : Int)]) (w.setCell ⟨b, x, none⟩ (.bool true)) := by
  obtain ⟨cs, h1, h2, h3⟩ := h
  refine ⟨_, h1.set x (.bool true), by simpa using h2, fun f hf => ?_⟩
  rw [Array.getElem?_setIfInBounds]
  by_cases e : x = f
  · subst e
    rw [if_pos rfl, if_pos (by omega)]
    simp
  · rw [if_neg e, h3 f hf]
    have : (S ++ [(x : Int)]).contains (f : Int) = S.contains (f : Int) := by
      simp only [List.contains_eq_mem, List.mem_append, List.mem_singleton]
      congr 1
      rw [eq_iff_iff]
      constructor
      · rintro (h | h)
        · exact h
        · omega
      · exact .inl
    rw [this]
theorem LJ.new (w : World) (cs : Array Value) (h : cs = (Array.replicate 14 (Value.bool false))) : LJ w.heap.size [] (w.alloc (.cells cs 100)) := by
  subst h
  refine ⟨_, BK.new _ _ _, rfl, fun f hf => ?_⟩
  rw [Array.getElem?_replicate, if_pos hf]; simp
theorem WZ {P : Program} {ops : Array Oper} {rest : List Oper} {o : Oper} {a : Act} {w : World} {Q : Exit → Act → World → Prop} (hw : Region.wanted o (yielded ops a.tmps) = true) (ty : TypeId) (x : Operand) (ho : o.op = .load ty x)
    (g : Nat) (hx : a.eval x = .pointer (some ⟨g, 0, none⟩)) (t : TypeId) (cs : Array Value) (fr : Nat × Nat) (d : TypeDesc) (hg : w.heap[g]? = some (.cells cs t fr))
    (hu : P.underlying ty = some d) (hd : (match d with | .struct _ | .array _ _ => true | _ => false) = true) (hi : (P.info? ty).map (·.size) = some cs.size)
    (h : wpList P ops Q rest (a.put o.dst (.agg cs)) w) : wpList P ops Q (o :: rest) a w :=
  wpList_step fun K hK => by
    rw [if_pos hw]
    exact wp_load_row ty x ho g hx t cs fr d hg hu hd hi (hK _ _ h)
set_option maxRecDepth 100000 in
set_option maxHeartbeats 1600000 in
theorem Ni (cs : Array Value) (kind : Int) (C : Nat → Int) (ZR : Nat → Bool) (w : World) (hsz : cs.size = 22) (h0 : cs[0]? = some (.int .i64 kind)) (hinf : (Tryz.prog.info? 34).map (·.size) = some cs.size)
    (hC : ∀ (f : Nat) (w' : World), f < 14 → ZZ kind f = true → w.grownBy w' none → Calls Tryz.prog 42 #[.agg cs, .int .i64 f] w' fun e w'' => e = .returned (.int .i64 (C f)) ∧ w'.grownBy w'' none)
    (hZ : ∀ (f : Nat) (w' : World), f < 14 → Calls Tryz.prog 43 #[.agg cs, .int .i64 f] w' fun e w'' => e = .returned (.bool (ZR f)) ∧ w'.grownBy w'' none) (hk : Kp kind) (VO : Int)
    (hV : VO = if UN (A5 kind C) ≠ 0 then UN (A5 kind C) else if (List.range 14).all (fun f => ZZ kind f || ZR f) = true then 0 else 18) :
    Calls Tryz.prog 31 #[.agg cs] w fun e w' => e = .returned (.int .i64 VO) ∧ w.grownBy w' none := by
  have HV := Lib.hid hV
  have hc0 : ∀ h, cs[0]'h = .int .i64 kind := fun h => by
    have := Array.getElem?_eq_getElem h
    rw [h0] at this
    exact (Option.some.inj this).symm
  have CZ := Lib.hid hZ
  have CU := Lib.hid (fun w => Nb kind w hk)
  have hlen := Nh kind
  have HIN := Lib.hid (fun x (h : x ∈ Yh kind) => Ow h)
  have HC := Lib.hid hC
  have HM := Lib.hid (fun (f : Nat) (hf : f < 14) => LI kind C hf)
  have HML := Lib.hid (Fh kind C)
  have hmine : ZZ kind = fun f : Nat => (Yh kind).contains (f : Int) := rfl
  have hmk := congrFun hmine
  generalize A5 kind C = MC at *
  generalize ZZ kind = MB at *
  generalize Yh kind = U at *
  have HMK := Lib.hid hmk
  have henil := fun a n c w => Ou (P := Tryz.prog) Tryz.underlying22 a n c w
  clear hC hk hmine hmk hV hZ
  go_enter Tryz.func31, Tryz.ntmps31
  go_wp2_with fail
  refine (CU.out _).mono ?_
  rintro e w1 ⟨a, rfl, IU, g1⟩
  have c1 : BK w.heap.size cs 34 w1 := (BK.new w _ _).keep g1
  have G1 := (Wd _ _).trans' g1
  have hz1 := c1.lt
  clear g1
  go_wp2_with fail
  go_loopw [6, 17] (fun _ i wr => ∃ j : Nat, j ≤ U.length ∧ i = .int .i64 j ∧ LJ w1.heap.size (U.take j) wr ∧ w1.grownBy wr none ∧ w1.heap.size < wr.heap.size) (fun _ i _ => U.length - (intOf i).toNat)
  case atStart => exact ⟨0, by omega, rfl, LJ.new _ _ (by rfl), Wd _ _, by simp⟩
  case round =>
    obtain ⟨j, hj, rfl, hM, g2, hz2⟩ := hrel
    by_cases hlt : j < U.length
    · obtain ⟨b, off, hab, hb, hc⟩ := (IU.grown g2).at (by omega)
      injection hab with hab
      subst hab
      have y := hc j hlt
      have hx := HIN.out _ (It hlt)
      have HS := Lib.hid (Gz hlt)
      obtain ⟨X, hX⟩ : ∃ X : Nat, gI U j = X := ⟨(gI U j).toNat, by omega⟩
      rw [hX] at y hx HS
      have hX14 : (X : Int) < 14 := by omega
      have hX0 : (0 : Int) ≤ X := by omega
      have e1 : (j : Int) < U.length := by omega
      have e2 : (0 : Int) ≤ j := by omega
      have f1 := hM.cell (f := X) (by omega)
      have f2 := hM.froz X
      clear hc hX
      go_wp2
      go_roundw
      case rel =>
        refine ⟨j + 1, by omega, by go_num, ?_, LW g2 _ (Nat.le_refl _), by simpa using hz2⟩
        rw [HS.out]
        exact hM.set (by omega)
      case measure => simp [intOf]; omega
    · obtain rfl : j = U.length := by omega
      rw [List.take_of_length_le (by omega)] at hM
      rename World => w2
      have c2 := c1.keep g2
      have G2 := G1.trans' g2
      clear c1 IU CU G1 g2 hlt hj
      go_wp2_with fail
      go_loopw [7, 8, 24] (fun _ _ i ws => ∃ f : Nat, f ≤ 14 ∧ i = .int .i64 f ∧ Hid (∀ g, g < f → gI MC g = 0) ∧ w2.grownBy ws none) (fun _ _ i _ => 14 - (intOf i).toNat)
      case atStart => exact ⟨0, by omega, rfl, fun g hg => absurd hg (by omega), EI _⟩
      case round =>
        obtain ⟨f, hf, rfl, hall, g3⟩ := hrel
        have M3 := hM.keep g3
        have c3 := c2.keep g3
        have G3 := G2.trans' g3
        by_cases hlt : f < 14
        · have f1 := M3.cell hlt
          rw [← HMK.out] at f1
          have hmc := HM.out f hlt
          have e1 : (f : Int) < 14 := by omega
          have e2 : (0 : Int) ≤ f := by omega
          have hcc := fun h => HC.out f wr hlt h G3
          have hnx : gI MC f = 0 → Hid (∀ g, g < f + 1 → gI MC g = 0) := fun h g hg => by
            by_cases e : g = f
            · rw [e]; exact h
            · exact hall.out g (by omega)
          have hbad : gI MC f ≠ 0 → Hid (VO = gI MC f) := fun h => by
            have hq := PK (L := MC) (k := f) (by rw [HML.out]; exact hlt) hall.out h
            show _ = _
            rw [HV.out, hq, if_pos h]
          generalize MB f = mb at *
          cases mb
          · have HS := Lib.hid (hnx (by rw [hmc]; rfl))
            clear hcc hmc hnx hbad
            go_wp2
            go_roundw
            case rel => exact ⟨f + 1, by omega, by go_num, HS.out, g3⟩
            case measure => simp [intOf]; omega
          · rw [if_pos rfl] at hmc
            rw [hmc] at hnx hbad
            have CK := Lib.hid (hcc rfl)
            generalize C f = ce at *
            clear hcc hmc
            by_cases hce : ce = 0
            · have HS := Lib.hid (hnx hce)
              subst hce
              clear hnx hbad
              go_wp2_with (refine wpList_load_row rfl 34 _ rfl _ rfl _ cs (0, 0) _ c3 Tryz.underlying34 rfl hinf ?_)
              go_wp2_with fail
              refine CK.out.mono ?_
              rintro e w5 ⟨rfl, g5⟩
              clear f1
              go_wp2
              go_roundw
              case rel => exact ⟨f + 1, by omega, by go_num, HS.out, g3.trans' g5⟩
              case measure => simp [intOf]; omega
            · have HB := hbad hce
              have hcb : (ce != 0) = true := bne_iff_ne.2 hce
              clear hnx hbad hce
              go_wp2_with (refine wpList_load_row rfl 34 _ rfl _ rfl _ cs (0, 0) _ c3 Tryz.underlying34 rfl hinf ?_)
              go_wp2_with fail
              refine CK.out.mono ?_
              rintro e w5 ⟨rfl, g5⟩
              clear f1
              go_wp2
              go_ret
              rw [HB.out]
              exact ⟨rfl, G3.trans' g5⟩
        · obtain rfl : f = 14 := by omega
          have HZ : Hid (UN MC = 0) := Ie (fun i hi => hall.out i (by rw [HML.out] at hi; exact hi))
          have hV2 : VO = if (List.range 14).all (fun f => MB f || ZR f) = true then 0 else 18 := by
            rw [HV.out, HZ.out, if_neg (by simp)]
          have HV2 := Lib.hid hV2
          clear hM c2 G2 hall hlt hf HV HM HML HC hV2 HZ
          rename World => w3
          go_wp2_with fail
          go_loopw [9, 38] (fun _ i ws => ∃ f : Nat, f ≤ 14 ∧ i = .int .i64 f ∧ Hid (∀ g, g < f → (MB g || ZR g) = true) ∧ w3.grownBy ws none) (fun _ i _ => 14 - (intOf i).toNat)
          case atStart => exact ⟨0, by omega, rfl, fun g hg => absurd hg (by omega), EI _⟩
          case round =>
            obtain ⟨f, hf, rfl, hall, g4⟩ := hrel
            have M4 := M3.keep g4
            have c4 := c3.keep g4
            have G4 := G3.trans' g4
            by_cases hlt : f < 14
            · have f1 := M4.cell hlt
              rw [← HMK.out] at f1
              have e1 : (f : Int) < 14 := by omega
              have e2 : (0 : Int) ≤ f := by omega
              have hnx : (MB f || ZR f) = true → Hid (∀ g, g < f + 1 → (MB g || ZR g) = true) := fun h g hg => by
                by_cases e : g = f
                · rw [e]; exact h
                · exact hall.out g (by omega)
              have hbad : (MB f || ZR f) = false → Hid (VO = 18) := fun h => by
                show _ = _
                rw [HV2.out, if_neg]
                intro hh
                have := List.all_eq_true.1 hh f (by simpa using hlt)
                rw [h] at this
                cases this
              have CK := Lib.hid (CZ.out f wr hlt)
              generalize MB f = mb at *
              cases mb
              · generalize ZR f = zf at *
                cases zf
                · have HB := hbad rfl
                  clear hnx hbad
                  go_wp2_with (refine WZ (by first | rfl | simp [Region.wanted, yielded]) 34 _ rfl _ rfl _ cs (0, 0) _ c4 Tryz.underlying34 rfl hinf ?_)
                  go_wp2_with fail
                  refine CK.out.mono ?_
                  rintro e w5 ⟨rfl, g5⟩
                  clear f1
                  go_wp2
                  go_ret
                  rw [HB.out]
                  exact ⟨rfl, G4.trans' g5⟩
                · have HS := Lib.hid (hnx rfl)
                  clear hnx hbad
                  go_wp2_with (refine WZ (by first | rfl | simp [Region.wanted, yielded]) 34 _ rfl _ rfl _ cs (0, 0) _ c4 Tryz.underlying34 rfl hinf ?_)
                  go_wp2_with fail
                  refine CK.out.mono ?_
                  rintro e w5 ⟨rfl, g5⟩
                  clear f1
                  go_wp2
                  go_roundw
                  case rel =>
                    refine ⟨_, _, _, _, _, _, _, _, _, _, _, _, _, _, _, _, ?_, rfl⟩
                    exact ⟨f + 1, by omega, by go_num, HS.out, g4.trans' g5⟩
                  case measure => simp [intOf]; omega
              · have HS := Lib.hid (hnx rfl)
                clear hnx hbad
                go_wp2
                go_roundw
                case rel => exact ⟨f + 1, by omega, by go_num, HS.out, g4⟩
                case measure => simp [intOf]; omega
            · obtain rfl : f = 14 := by omega
              have HB := Lib.hid (show VO = 0 by
                rw [HV2.out, if_pos]
                exact List.all_eq_true.2 fun g hg => hall.out g (by simpa using hg))
              clear c4 M4
              go_wp2
              go_ret
              rw [HB.out]
              exact ⟨rfl, G4⟩
end Go.Proofs.YtpnpodbihdiegaaGreat
namespace Go.Proofs.YtpnpodbihdiegaaGreat
open Go.RowKit Go.ChangeShapes Go.WideShapes
theorem Tryz.infoOp : (Tryz.prog.info? 34).map (·.size) = some 22 := by kernel_rfl
set_option maxRecDepth 100000 in
set_option maxHeartbeats 1600000 in
theorem Nj (cs : Array Value) (kind : Int) (w : World) (hsz : cs.size = 22) (h0 : cs[0]? = some (.int .i64 kind)) (hk : ¬ Kp kind) :
    Calls Tryz.prog 31 #[.agg cs] w fun e w' => e = .returned (.int .i64 8) ∧ w.grownBy w' none := by
  have hc0 : ∀ h, cs[0]'h = .int .i64 kind := fun h => by
    have := Array.getElem?_eq_getElem h
    rw [h0] at this
    exact (Option.some.inj this).symm
  have CU := Lib.hid (fun w => Ov kind w hk)
  have henil := fun w => N9 (P := Tryz.prog) Tryz.underlying22 w
  go_enter Tryz.func31, Tryz.ntmps31
  go_wp2_with fail
  refine (CU.out _).mono ?_
  rintro e w1 ⟨rfl, rfl⟩
  go_wp2
  go_ret
  exact ⟨rfl, Wd _ _⟩
theorem Mk (o : OpD) (C : Nat → Int) (vn vi vc vd : Value) (w : World)
    (h1 : Sl vn o.names.length) (h2 : Sl vi o.items.length) (h3 : Sl vc o.coins.length) (h4 : Sl vd o.data.length)
    (hC : ∀ (f : Nat) (w' : World), f < 14 → ZZ o.kind f = true → w.grownBy w' none → Calls Tryz.prog 42 #[opV o vn vi vc vd, .int .i64 f] w' fun e w'' => e = .returned (.int .i64 (C f)) ∧ w'.grownBy w'' none) :
    Calls Tryz.prog 31 #[opV o vn vi vc vd] w fun e w' => e = .returned (.int .i64 (FY o C)) ∧ w.grownBy w' none := by
  by_cases hk : Kp o.kind
  · refine Ni _ o.kind C (Cz o) w (by rfl) (by rfl) (by exact Tryz.infoOp) hC (fun f w' hf => Nc o f vn vi vc vd w' hf h1 h2 h3 h4) hk _ ?_
    unfold FY
    rw [if_neg (by simp [hk])]
  · unfold FY
    rw [if_pos hk]
    exact Nj _ o.kind w (by rfl) (by rfl) hk
def Ux (a : Qq) : OpD := ⟨a.fo, a.fb7, a.fj, a.fa2, a.fb.fo, a.fb.fg, a.fb.fq, a.fb.fu, a.f8.map (fun x => (x.fa1, x.fa7)), a.fb5, a.fa3, a.fb0, a.fa5, a.fb6, a.fa6, a.f0, a.fv.fo, a.fv.fa1, a.fv.f0, a.fv.fc0, a.fv.fb9, a.fb4⟩
def Xu (a0 : Qq) (r : Int) : Prop :=
  (Lit.int .i64 r).wf = true ∧ ∃ C : Nat → Int, (∀ f : Nat, f < 14 → ZZ a0.fo f = true → JV a0 f (C f)) ∧ r = FY (Ux a0) C
theorem Ox {w : World} {A : Nat → Prop} {gs : Nat → Option Nat} {g q : Nat} {xs : List PV} {vs : Array Value} (h : Mr w A gs g q [.agg xs] vs.toList) : ∃ cs, vs = #[.agg cs] ∧ Do w A (fun _ => none) 0 (xs.map .p) cs.toList := by
  suffices ∃ cs, vs.toList = [.agg cs] ∧ Do w A (fun _ => none) 0 (xs.map .p) cs.toList by
    obtain ⟨cs, h1, h2⟩ := this
    exact ⟨cs, by have := congrArg List.toArray h1; simpa using this, h2⟩
  revert h
  generalize vs.toList = l
  intro h
  match l, h with
  | [v], h =>
    obtain ⟨cs, rfl, h2⟩ := h.1
    exact ⟨cs, rfl, h2⟩
theorem K4 {w : World} {A : Nat → Prop} {gs : Nat → Option Nat} {n : Nat} {x : RV} {r : List RV} {us : List Value} (h : Do w A gs n (x :: r) us) : ∃ u us', us = u :: us' ∧ Ph w A (gs n) x u ∧ Do w A gs (n + 1) r us' := by
  cases us with
  | nil => exact h.elim
  | cons u us => exact ⟨u, us, rfl, h.2.1, h.2.2⟩
theorem Aw {w : World} {A : Nat → Prop} {go : Option Nat} {x u : Value} (h : Ph w A go (.p (.v x)) u) : u = x := by
  have : RP w A (.v x) u := h
  cases this with | v _ _ => rfl
theorem LK {w : World} {A : Nat → Prop} {go : Option Nat} {e : Nat} {rows : List (List PV)} {u : Value} (h : Ph w A go (.p (.l e rows)) u) : Sl u rows.length := by
  have : RP w A (.l e rows) u := h
  cases this with | l _ _ a cap c _ _ _ _ _ => exact ⟨a, cap, rfl⟩
set_option maxRecDepth 100000 in
theorem PL {w : World} {A : Nat → Prop} {a0 : Qq} {cs : Array Value} (hcs : Do w A (fun _ => none) 0 ((Zi a0).map .p) cs.toList) : ∃ vn vi vc vd, Value.agg cs = opV (Ux a0) vn vi vc vd ∧ Sl vn (Ux a0).names.length ∧ Sl vi (Ux a0).items.length ∧ Sl vc (Ux a0).coins.length ∧ Sl vd (Ux a0).data.length := by
  simp only [Zi, List.map_cons, List.map_nil] at hcs
  obtain ⟨u0, l0, e0, h0, hcs⟩ := K4 hcs
  have x0 := Aw h0
  obtain ⟨u1, l1, e1, h1, hcs⟩ := K4 hcs
  have x1 := Aw h1
  obtain ⟨u2, l2, e2, h2, hcs⟩ := K4 hcs
  have x2 := Aw h2
  obtain ⟨u3, l3, e3, h3, hcs⟩ := K4 hcs
  have x3 := LK h3
  obtain ⟨u4, l4, e4, h4, hcs⟩ := K4 hcs
  have x4 := Aw h4
  obtain ⟨u5, l5, e5, h5, hcs⟩ := K4 hcs
  have x5 := Aw h5
  obtain ⟨u6, l6, e6, h6, hcs⟩ := K4 hcs
  have x6 := Aw h6
  obtain ⟨u7, l7, e7, h7, hcs⟩ := K4 hcs
  have x7 := Aw h7
  obtain ⟨u8, l8, e8, h8, hcs⟩ := K4 hcs
  have x8 := LK h8
  obtain ⟨u9, l9, e9, h9, hcs⟩ := K4 hcs
  have x9 := LK h9
  obtain ⟨u10, l10, e10, h10, hcs⟩ := K4 hcs
  have x10 := Aw h10
  obtain ⟨u11, l11, e11, h11, hcs⟩ := K4 hcs
  have x11 := Aw h11
  obtain ⟨u12, l12, e12, h12, hcs⟩ := K4 hcs
  have x12 := Aw h12
  obtain ⟨u13, l13, e13, h13, hcs⟩ := K4 hcs
  have x13 := Aw h13
  obtain ⟨u14, l14, e14, h14, hcs⟩ := K4 hcs
  have x14 := Aw h14
  obtain ⟨u15, l15, e15, h15, hcs⟩ := K4 hcs
  have x15 := Aw h15
  obtain ⟨u16, l16, e16, h16, hcs⟩ := K4 hcs
  have x16 := Aw h16
  obtain ⟨u17, l17, e17, h17, hcs⟩ := K4 hcs
  have x17 := Aw h17
  obtain ⟨u18, l18, e18, h18, hcs⟩ := K4 hcs
  have x18 := Aw h18
  obtain ⟨u19, l19, e19, h19, hcs⟩ := K4 hcs
  have x19 := Aw h19
  obtain ⟨u20, l20, e20, h20, hcs⟩ := K4 hcs
  have x20 := Aw h20
  obtain ⟨u21, l21, e21, h21, hcs⟩ := K4 hcs
  have x21 := LK h21
  have hl : cs.toList = [u0, u1, u2, u3, u4, u5, u6, u7, u8, u9, u10, u11, u12, u13, u14, u15, u16, u17, u18, u19, u20, u21] := by
    have h0 : l21 = [] := by
      cases l21 with
      | nil => rfl
      | cons v l => exact hcs.elim
    rw [e0, e1, e2, e3, e4, e5, e6, e7, e8, e9, e10, e11, e12, e13, e14, e15, e16, e17, e18, e19, e20, e21, h0]
  refine ⟨u3, u8, u9, u21, ?_, by simpa [Ux] using x3, by simpa [Ux] using x8, by simpa [Ux] using x9, by simpa [Ux] using x21⟩
  have hc : cs = #[u0, u1, u2, u3, u4, u5, u6, u7, u8, u9, u10, u11, u12, u13, u14, u15, u16, u17, u18, u19, u20, u21] := by have := congrArg List.toArray hl; simpa using this
  rw [hc, x0, x1, x2, x4, x5, x6, x7, x10, x11, x12, x13, x14, x15, x16, x17, x18, x19, x20]
  rfl
theorem AX {a0 : Qq} {r : Int} (h : Xu a0 r) : Qp Tryz.prog 31 [.agg (Zi a0)] [.c (.p (.v (.int .i64 r)))] [] := by
  obtain ⟨hwf, C, hC, hr⟩ := h
  refine F6 (by kernel_rfl) hwf rfl fun A q w vs hA hR => ?_
  obtain ⟨cs, rfl, hcs⟩ := Ox hR
  obtain ⟨vn, vi, vc, vd, hv, h1, h2, h3, h4⟩ := PL hcs
  rw [hv, hr]
  rw [hv] at hR
  refine Mk (Ux a0) C vn vi vc vd w h1 h2 h3 h4 fun f w' hf hm g => ?_
  refine Uc (A := A) (q := 0) (g := w'.heap.size) (D5 (hC f hf hm)) rfl (fun x hx => Nat.lt_of_lt_of_le (hA x hx) g.size) ?_
  have h1 := HX (g' := w'.heap.size) (q' := 0) g hA rfl hR
  refine ⟨h1.1, .v _ ?_, trivial⟩
  simp only [KE, Lit.wf, Bool.and_eq_true, decide_eq_true_eq]
  constructor <;> simp [IntKind.min, IntKind.max, IntKind.bits, IntKind.signed] <;> omega
end Go.Proofs.YtpnpodbihdiegaaGreat
