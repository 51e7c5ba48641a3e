/- Parts of the proof, laid together. No condition. -/
import Derived.Test.YtpnpodbihdiegaaGreatV4
set_option linter.unusedVariables false
set_option linter.unusedSimpArgs false
namespace Go.Proofs.YtpnpodbihdiegaaGreat
open Go.RowKit
set_option maxRecDepth 100000
set_option maxHeartbeats 4000000
def KO (a0 : Qk) (a1 : Qi) (a2 : (List Int)) (a3 : Int) (Q : (Qk × Int × Int) → Prop) : Prop :=
 ∃ v2, ZO a0 v2 ∧ ((((v2 != 0)) = true → Q ((Qk.mk 0 0 0 ([] : (List (List ByteArray))) false), 0, v2)) ∧ (((v2 != 0)) = false → ∃ v4, Z7 a1 v4 ∧ ((((v4 != 0)) = true → Q ((Qk.mk 0 0 0 ([] : (List (List ByteArray))) false), 0, v4)) ∧ (((v4 != 0)) = false → ∃ v6, Ww a3 v6 ∧ (((!(v6)) = true → Q ((Qk.mk 0 0 0 ([] : (List (List ByteArray))) false), 0, 5)) ∧ ((!(v6)) = false → ∃ v7, Jc a0.fo a1.fa6 v7 ∧ ((v7.2 = true → Q ((Qk.mk a0.fg a0.fo a0.fa8 a0.fx true), a3, 0)) ∧ (v7.2 = false → (a0.fx.length * 24 ≤ 140737488355328) ∧ ∃ v10, XX a1.fa6 v10 ∧ jn (fun (p11 : (List (List ByteArray))) => ∃ v26, XY p11 a0.fg a0.fa8 a2 a3 v26 ∧ Q ((Qk.mk a0.fg v7.1 v26.2.1 v26.1 a0.fa), v26.2.2, 0)) (fun (J11 : (List (List ByteArray)) → Prop) => lp (fun (X12 : (List (List ByteArray)) × (List Int) × Int → Prop) (s12 : (List (List ByteArray)) × (List Int) × Int) => (((decide (s12.2.2 < ((s12.2.1.length : Int)))) = true → jn (fun (p14 : (List (List ByteArray)) × (List Int)) => X12 (p14.1, p14.2, (IntKind.i64.wrap (s12.2.2 + 1)))) (fun (J14 : (List (List ByteArray)) × (List Int) → Prop) => jn (fun (p15 : (List (List ByteArray)) × (List Int)) => ∃ v20, ix p15.2 s12.2.2 v20 ∧ ∃ v21, ix p15.2 s12.2.2 v21 ∧ ∃ v22, ix p15.1 v21 v22 ∧ (v22.length * 16 ≤ 140737488355328) ∧ ((v22.length + ([a1.fa2]).length) * 16 ≤ 140737488355328) ∧ ∃ v25, ix p15.1 v20 v25 ∧ J14 ((List.set p15.1 (Int.toNat v20) (((v22 ++ ([a1.fa2]))))), p15.2)) (fun (J15 : (List (List ByteArray)) × (List Int) → Prop) => lp (fun (X16 : (List (List ByteArray)) × (List Int) → Prop) (s16 : (List (List ByteArray)) × (List Int)) => ∃ v18, ix s16.2 s12.2.2 v18 ∧ (((decide (((s16.1.length : Int)) ≤ v18)) = true → ((s16.1.length + ([([] : (List ByteArray))]).length) * 24 ≤ 140737488355328) ∧ X16 ((s16.1 ++ ([([] : (List ByteArray))])), s16.2)) ∧ ((decide (((s16.1.length : Int)) ≤ v18)) = false → J15 (s16.1, s16.2)))) (s12.1, s12.2.1)))) ∧ ((decide (s12.2.2 < ((s12.2.1.length : Int)))) = false → J11 s12.1))) (a0.fx, v10, 0))))))))))
def JB (a0 : Qk) (a1 : Qi) (a2 : (List Int)) (a3 : Int) (r : Qk × Int × Int) : Prop := KO a0 a1 a2 a3 fun x => r = x
theorem C5 {a0 : Qk} {a1 : Qi} {a2 : (List Int)} {a3 : Int} {Post : (Qk × Int × Int) → Prop} (h : KO a0 a1 a2 a3 Post) : ∃ r, JB a0 a1 a2 a3 r ∧ Post r := (show GM (KO a0 a1 a2 a3) (KO a0 a1 a2 a3) from GM.ex fun v2 => GM.cond (GM.ret _) (GM.ex fun v4 => GM.cond (GM.ret _) (GM.ex fun v6 => GM.cond (GM.ret _) (GM.ex fun v7 => GM.cond (GM.ret _) (GM.and (GM.ex fun v10 => GM.join (fun p11 => GM.ex fun v26 => GM.ret _) (fun _ _ J11 => GM.loop (fun X Y Q s12 X12 h => ⟨fun hc => Yy (h.1 hc) (fun p14 h => X12 _ h) (fun _ _ J14 h => Yy h (fun p15 h => (Exists.elim h fun v20 hv20 => ⟨v20, hv20.1, (Exists.elim hv20.2 fun v21 hv21 => ⟨v21, hv21.1, (Exists.elim hv21.2 fun v22 hv22 => ⟨v22, hv22.1, ⟨hv22.2.1, ⟨hv22.2.2.1, (Exists.elim hv22.2.2.2 fun v25 hv25 => ⟨v25, hv25.1, J14 _ hv25.2⟩)⟩⟩⟩)⟩)⟩)) (fun _ _ J15 h => BN h (fun _ _ X16 s16 h => (Exists.elim h fun v18 hv18 => ⟨v18, hv18.1, ⟨fun hc => ⟨(hv18.2.1 hc).1, X16 _ ((hv18.2.1 hc).2)⟩, fun hc => J15 _ (hv18.2.2 hc)⟩⟩)))), fun hc => h.2 hc⟩) (fun _ _ X12 s12 => GM.cond (GM.join (fun p14 => X12 _) (fun _ _ J14 => GM.join (fun p15 => GM.ex fun v20 => GM.ex fun v21 => GM.ex fun v22 => GM.and (GM.and (GM.ex fun v25 => J14 _))) (fun _ _ J15 => GM.loop (fun X Y Q s16 X16 h => (Exists.elim h fun v18 hv18 => ⟨v18, hv18.1, ⟨fun hc => ⟨(hv18.2.1 hc).1, X16 _ ((hv18.2.1 hc).2)⟩, fun hc => hv18.2.2 hc⟩⟩)) (fun _ _ X16 s16 => GM.ex fun v18 => GM.cond (GM.and (X16 _)) (J15 _))))) (J11 _))))))))) Post h
theorem C6 {a0 : Qk} {a1 : Qi} {a2 : (List Int)} {a3 : Int} {r : Qk × Int × Int} (h : JB a0 a1 a2 a3 r) : Qr Tryz.prog 109 [.agg (QZ a0), .agg (QL a1), .c (.l 1 (List.map (eI .u8) a2)), .c (.v (.int .i64 a3))] [.agg [.p (.v (.int .i64 r.1.fg)), .p (.v (.int .i64 r.1.fo)), .p (.v (.int .i64 r.1.fa8)), .p (.l 1 (List.map (eL 1 eS) r.1.fx)), .p (.v (.bool r.1.fa))], .c (.p (.v (.int .i64 r.2.1))), .c (.p (.v (.int .i64 r.2.2)))] [] := by
  refine Qn tb Tryz.func109 Z (by kernel_rfl) Z Z (Nat.le_of_ble_eq_true Z) Z ?_;intro E;unfold JB KO at h;refine Z5 (fun Q hQ => ?_);refine tD Z ?_;refine sk fun L1 hL1 => ?_;refine tk fun L hL => ?_;refine dN 1 Z ?_;obtain ⟨v2, hv2, h⟩ := h;refine u0 (QO (Xk hv2)) ?_;refine dN 1 Z ?_;refine rt (hL _ ?_);refine tD Z ?_;refine cn h (fun h => ?_) fun h => ?_
  · refine tD Z ?_;obtain rfl := h;exact Qf (hQ _ _ ⟨.inr Z, _, _, _, (.cons (.cella Z Z Z Z Z) (.cons (.p Z) (.cons (.p Z) .nil))), (.cons (.agg (Qq (Qq (Qq (YN (Qq .nil)))))) (.cons (.c (.p _)) (.cons (.c (.p _)) .nil))), Z, Z⟩)
  · refine Qh (hL1 _ ?_);refine sk fun L3 hL3 => ?_;refine tk fun L hL => ?_;refine dN 1 Z ?_;obtain ⟨v4, hv4, h⟩ := h;refine u0 (QO (ZG hv4)) ?_;refine dN 1 Z ?_;refine rt (hL _ ?_);refine tD Z ?_;refine cn h (fun h => ?_) fun h => ?_
    · refine tD Z ?_;obtain rfl := h;exact Qf (hQ _ _ ⟨.inr Z, _, _, _, (.cons (.cella Z Z Z Z Z) (.cons (.p Z) (.cons (.p Z) .nil))), (.cons (.agg (Qq (Qq (Qq (YN (Qq .nil)))))) (.cons (.c (.p _)) (.cons (.c (.p _)) .nil))), Z, Z⟩)
    · refine Qh (hL3 _ ?_);refine sk fun L5 hL5 => ?_;refine tk fun L hL => ?_;refine dN 1 Z ?_;obtain ⟨v6, hv6, h⟩ := h;refine u0 (QO (Eb hv6)) ?_;refine dN 1 Z ?_;refine rt (hL _ ?_);refine cn h (fun h => ?_) fun h => ?_
      · refine tD Z ?_;obtain rfl := h;exact Qf (hQ _ _ ⟨.inr Z, _, _, _, (.cons (.cella Z Z Z Z Z) (.cons (.p Z) (.cons (.p Z) .nil))), (.cons (.agg (Qq (Qq (Qq (YN (Qq .nil)))))) (.cons (.c (.p _)) (.cons (.c (.p _)) .nil))), Z, Z⟩)
      · refine Qh (hL5 _ ?_);refine tk fun L hL => ?_;refine dN 4 Z ?_;obtain ⟨v7, hv7, h⟩ := h;refine u0 (QO (Xp hv7)) ?_;refine dN 5 Z ?_;refine rt (hL _ ?_);refine sk fun L8 hL8 => ?_;refine tD Z ?_;refine cn h (fun h => ?_) fun h => ?_
        · refine tD Z ?_;refine tD Z ?_;obtain rfl := h;exact Qf (hQ _ _ ⟨.inr Z, _, _, _, (.cons (.cella Z Z Z Z Z) (.cons (.p Z) (.cons (.p Z) .nil))), (.cons (.agg (Qq (Qq (Qq (Qq (Qq .nil)))))) (.cons (.c (.p _)) (.cons (.c (.p _)) .nil))), Z, Z⟩)
        · refine Qh (hL8 _ ?_);refine tk fun L hL => ?_;refine dN 2 Z ?_;obtain ⟨hm9, h⟩ := h;refine ul (XB (f := (eL 1 eS)) (L := a0.fx) hm9 Z Z Z Z Z Z Z Z Z Z (VX QK Z Z Z Z Z)) ?_;refine dN 1 Z ?_;refine rt (hL _ ?_);refine tk fun L hL => ?_;refine dN 2 Z ?_;obtain ⟨v10, hv10, h⟩ := h;refine ul (ZB (FC hv10)) ?_;refine dN 1 Z ?_;refine rt (hL _ ?_);refine Z6 (fun (p11 : (List (List ByteArray))) => (⟨[(2, .c (.p (.l 1 (List.map (eI .u8) a2)))), (3, .c (.p (.v (.int .i64 a3)))), (4, .c (.ptr (4, 0) 0 0)), (8, .c (.ptr (8, 0) 0 0)), (13, .c (.p (.v (.int .i64 v7.1)))), (15, .c (.sl (15, 1000) 0 (List.map (eL 1 eS) p11).length))], [((15, 1000), some (.row 1 (List.map (eL 1 eS) p11) true)), ((4, 0), some (.box (List.map CV.p (QZ a0)))), ((8, 0), some (.box ([.p (.v (.int .i64 0)), .p (.v (.int .i64 0)), .p (.v (.int .i64 0)), .p (.v (.slice none 0 0)), .p (.v (.bool false))])))]⟩ : St)) h (fun p11 h => ?_) (fun J11 L11 hL11 h => ?_)
          · refine tk fun L hL => ?_;refine dN 7 Z ?_;obtain ⟨v26, hv26, h⟩ := h;refine ul (Xg (FG hv26) Z Z (.cons (.c (.fr Z (QI Z))) (.cons (.c (.p _)) (.cons (.c (.p _)) (.cons (.c (.p _)) (.cons (.c (.p _)) .nil)))))) ?_;refine dN 7 Z ?_;refine rt (hL _ ?_);refine tD Z ?_;obtain rfl := h;exact Qf (hQ _ _ ⟨.inr Z, _, _, _, (.cons (.cella Z Z Z Z Z) (.cons (.p Z) (.cons (.p Z) .nil))), (.cons (.agg (Qq (Qq (Qq (Qq (Qq .nil)))))) (.cons (.c (.p _)) (.cons (.c (.p _)) .nil))), Z, Z⟩)
          · refine tD Z ?_;refine Qt ?_;refine Zr (fun (s12 : (List (List ByteArray)) × (List Int) × Int) => (⟨[(2, .c (.p (.l 1 (List.map (eI .u8) a2)))), (3, .c (.p (.v (.int .i64 a3)))), (4, .c (.ptr (4, 0) 0 0)), (5, .c (.ptr (5, 0) 0 0)), (8, .c (.ptr (8, 0) 0 0)), (13, .c (.p (.v (.int .i64 v7.1)))), (15, .c (.sl (15, 1000) 0 (List.map (eL 1 eS) s12.1).length)), (16, .c (.sl (16, 1000) 0 (List.map (eI .i64) s12.2.1).length)), (17, .c (.p (.v (.int .i64 s12.2.2))))], [((15, 1000), some (.row 1 (List.map (eL 1 eS) s12.1) true)), ((16, 1000), some (.row 1 (List.map (eI .i64) s12.2.1) true)), ((4, 0), some (.box (List.map CV.p (QZ a0)))), ((5, 0), some (.box (List.map CV.p (QL a1)))), ((8, 0), some (.box ([.p (.v (.int .i64 0)), .p (.v (.int .i64 0)), .p (.v (.int .i64 0)), .p (.v (.slice none 0 0)), .p (.v (.bool false))])))]⟩ : St)) h (QC.nm [2, 3, 4, 5, 8, 13, 15, 16, 17] [((50, 0), (15, 1000)), ((53, 0), (16, 1000)), ((4, 0), (4, 0)), ((5, 0), (5, 0)), ((8, 0), (8, 0))] Z (by kernel_rfl)) (fun X12 L12 hL12 s12 h => ?_);refine sk fun L13 hL13 => ?_;refine tk fun L hL => ?_;refine dN 2 Z ?_;refine u0 ZW ?_;refine dN 1 Z ?_;refine rt (hL _ ?_);refine cn h (fun h => ?_) fun h => ?_
            · refine Qh (hL13 _ ?_);refine Z6 (fun (p14 : (List (List ByteArray)) × (List Int)) => (⟨[(2, .c (.p (.l 1 (List.map (eI .u8) a2)))), (3, .c (.p (.v (.int .i64 a3)))), (4, .c (.ptr (4, 0) 0 0)), (5, .c (.ptr (5, 0) 0 0)), (8, .c (.ptr (8, 0) 0 0)), (13, .c (.p (.v (.int .i64 v7.1)))), (15, .c (.sl (15, 1000) 0 (List.map (eL 1 eS) p14.1).length)), (16, .c (.sl (16, 1000) 0 (List.map (eI .i64) p14.2).length)), (17, .c (.p (.v (.int .i64 s12.2.2))))], [((15, 1000), some (.row 1 (List.map (eL 1 eS) p14.1) true)), ((16, 1000), some (.row 1 (List.map (eI .i64) p14.2) true)), ((4, 0), some (.box (List.map CV.p (QZ a0)))), ((5, 0), some (.box (List.map CV.p (QL a1)))), ((8, 0), some (.box ([.p (.v (.int .i64 0)), .p (.v (.int .i64 0)), .p (.v (.int .i64 0)), .p (.v (.slice none 0 0)), .p (.v (.bool false))])))]⟩ : St)) h (fun p14 h => ?_) (fun J14 L14 hL14 h => ?_)
              · refine tE Z (hL12 _ _ h QC.fit)
              · refine Qt ?_;refine Z6 (fun (p15 : (List (List ByteArray)) × (List Int)) => (⟨[(2, .c (.p (.l 1 (List.map (eI .u8) a2)))), (3, .c (.p (.v (.int .i64 a3)))), (4, .c (.ptr (4, 0) 0 0)), (5, .c (.ptr (5, 0) 0 0)), (8, .c (.ptr (8, 0) 0 0)), (13, .c (.p (.v (.int .i64 v7.1)))), (15, .c (.sl (15, 1000) 0 (List.map (eL 1 eS) p15.1).length)), (16, .c (.sl (16, 1000) 0 (List.map (eI .i64) p15.2).length)), (17, .c (.p (.v (.int .i64 s12.2.2))))], [((15, 1000), some (.row 1 (List.map (eL 1 eS) p15.1) true)), ((16, 1000), some (.row 1 (List.map (eI .i64) p15.2) true)), ((4, 0), some (.box (List.map CV.p (QZ a0)))), ((5, 0), some (.box (List.map CV.p (QL a1)))), ((8, 0), some (.box ([.p (.v (.int .i64 0)), .p (.v (.int .i64 0)), .p (.v (.int .i64 0)), .p (.v (.slice none 0 0)), .p (.v (.bool false))])))]⟩ : St)) h (fun p15 h => ?_) (fun J15 L15 hL15 h => ?_)
                · refine dl mixed (fun L hL => ?_);refine dN 3 Z ?_;obtain ⟨v20, hv20, h⟩ := h;refine u0 (QU hv20) ?_;refine u0 (QY Z Z (gm hv20.2)) ?_;refine dN 3 Z ?_;obtain ⟨v21, hv21, h⟩ := h;refine u0 (QU hv21) ?_;refine u0 (QY Z Z (gm hv21.2)) ?_;obtain ⟨v22, hv22, h⟩ := h;refine u0 (QU hv22) ?_;refine u0 (QY Z Z (gm hv22.2)) ?_;obtain ⟨hm23, h⟩ := h;refine ul (XB (f := eS) (L := v22) hm23 Z Z Z Z Z Z Z Z Z Z (VX QK Z Z Z Z Z)) ?_;refine dN 2 Z ?_;refine ul (QF (rows := List.map eS [a1.fa2])) ?_;obtain ⟨hm24, h⟩ := h;refine ul (QJ (f := eS) (L := v22) (L' := [a1.fa2]) hm24 Z Z Z Z Z Z Z Z Z Z Z (Z1 QK Z Z Z Z Z Z)) ?_;obtain ⟨v25, hv25, h⟩ := h;refine u0 (QU hv25) ?_;refine Az Z (ZD (b := (86, 0)) Z Z (Kk (x1 := ((v22 ++ ([a1.fa2])))) hv25.2 Z Z Z Z (.cons (.fr Z (QI Z)) .nil))) ?_;refine rd (hL _ (hL14 _ _ h ((QC.slot 15 Z (.n (n' := (List.map (eL 1 eS) (List.set p15.1 (Int.toNat v20) (((v22 ++ ([a1.fa2])))))).length) (by simp))).trans QC.fit)))
                · refine Qt ?_;refine Zr (fun (s16 : (List (List ByteArray)) × (List Int)) => (⟨[(2, .c (.p (.l 1 (List.map (eI .u8) a2)))), (3, .c (.p (.v (.int .i64 a3)))), (4, .c (.ptr (4, 0) 0 0)), (5, .c (.ptr (5, 0) 0 0)), (8, .c (.ptr (8, 0) 0 0)), (13, .c (.p (.v (.int .i64 v7.1)))), (15, .c (.sl (15, 1000) 0 (List.map (eL 1 eS) s16.1).length)), (16, .c (.sl (16, 1000) 0 (List.map (eI .i64) s16.2).length)), (17, .c (.p (.v (.int .i64 s12.2.2))))], [((15, 1000), some (.row 1 (List.map (eL 1 eS) s16.1) true)), ((16, 1000), some (.row 1 (List.map (eI .i64) s16.2) true)), ((4, 0), some (.box (List.map CV.p (QZ a0)))), ((5, 0), some (.box (List.map CV.p (QL a1)))), ((8, 0), some (.box ([.p (.v (.int .i64 0)), .p (.v (.int .i64 0)), .p (.v (.int .i64 0)), .p (.v (.slice none 0 0)), .p (.v (.bool false))])))]⟩ : St)) h QC.fit (fun X16 L16 hL16 s16 h => ?_);refine sk fun L17 hL17 => ?_;refine tk fun L hL => ?_;refine dN 1 Z ?_;refine u0 ZW ?_;refine dN 2 Z ?_;obtain ⟨v18, hv18, h⟩ := h;refine u0 (QU hv18) ?_;refine u0 (QY Z Z (gm hv18.2)) ?_;refine dN 1 Z ?_;refine rt (hL _ ?_);refine cn h (fun h => ?_) fun h => ?_
                  · refine Qh (hL17 _ ?_);refine Qt ?_;refine tl fun L hL => ?_;refine dN 1 Z ?_;refine ul (Xh (rows := List.map (eL 1 eS) [([] : (List ByteArray))]) Z Z Z Z Z Z Z Z Z (.cons (.nil _) .nil)) ?_;obtain ⟨hm19, h⟩ := h;refine ul (QJ (f := (eL 1 eS)) (L := s16.1) (L' := [([] : (List ByteArray))]) hm19 Z Z Z Z Z Z Z Z Z Z Z (Z1 QK Z Z Z Z Z Z)) ?_;refine dN 1 Z ?_;refine rt (hL _ (hL16 _ _ h (QC.nm [2, 3, 4, 5, 8, 13, 15, 16, 17] [((69, 0), (15, 1000)), ((16, 1000), (16, 1000)), ((4, 0), (4, 0)), ((5, 0), (5, 0)), ((8, 0), (8, 0))] Z (by kernel_rfl))))
                  · refine QQ (hL15 _ _ h QC.fit)
            · refine QQ (hL11 _ _ h QC.fit)
def Vb (a0 : Qa) (a1 : Qi) (a2 : (List Int)) (a3 : Int) (Q : (Qa × Int × Int) → Prop) : Prop :=
 ∃ v2, Jq a0 v2 ∧ ((((v2 != 0)) = true → Q ((Qa.mk (Q6.mk 0 0 0 0) (Qo.mk 0 0 false) (Q9.mk 0 0 0 ([] : (List Int)) false) (Qj.mk 0 0 ([] : (List Int))) (Qs.mk 0 0 ([] : (List Q1)) false) (Qb.mk 0 0 0 ([] : (List Q1)) false) (Qk.mk 0 0 0 ([] : (List (List ByteArray))) false)), 0, v2)) ∧ (((v2 != 0)) = false → ∃ v4, Z7 a1 v4 ∧ ((((v4 != 0)) = true → Q ((Qa.mk (Q6.mk 0 0 0 0) (Qo.mk 0 0 false) (Q9.mk 0 0 0 ([] : (List Int)) false) (Qj.mk 0 0 ([] : (List Int))) (Qs.mk 0 0 ([] : (List Q1)) false) (Qb.mk 0 0 0 ([] : (List Q1)) false) (Qk.mk 0 0 0 ([] : (List (List ByteArray))) false)), 0, v4)) ∧ (((v4 != 0)) = false → ∃ v6, YW a3 v6 ∧ (((!(v6)) = true → Q ((Qa.mk (Q6.mk 0 0 0 0) (Qo.mk 0 0 false) (Q9.mk 0 0 0 ([] : (List Int)) false) (Qj.mk 0 0 ([] : (List Int))) (Qs.mk 0 0 ([] : (List Q1)) false) (Qb.mk 0 0 0 ([] : (List Q1)) false) (Qk.mk 0 0 0 ([] : (List (List ByteArray))) false)), 0, 5)) ∧ ((!(v6)) = false → jn (fun (p7 : Int × Int × Int × Bool × Int × Int × Int × (List Int) × Bool × Int × Int × (List Int) × Int × Int × (List Q1) × Bool × Int × Int × Int × (List Q1) × Bool × Int × Int × Int × (List (List ByteArray)) × Bool) => Q ((Qa.mk a0.fb (Qo.mk p7.2.1 p7.2.2.1 p7.2.2.2.1) (Q9.mk p7.2.2.2.2.1 p7.2.2.2.2.2.1 p7.2.2.2.2.2.2.1 p7.2.2.2.2.2.2.2.1 p7.2.2.2.2.2.2.2.2.1) (Qj.mk p7.2.2.2.2.2.2.2.2.2.1 p7.2.2.2.2.2.2.2.2.2.2.1 p7.2.2.2.2.2.2.2.2.2.2.2.1) (Qs.mk p7.2.2.2.2.2.2.2.2.2.2.2.2.1 p7.2.2.2.2.2.2.2.2.2.2.2.2.2.1 p7.2.2.2.2.2.2.2.2.2.2.2.2.2.2.1 p7.2.2.2.2.2.2.2.2.2.2.2.2.2.2.2.1) (Qb.mk p7.2.2.2.2.2.2.2.2.2.2.2.2.2.2.2.2.1 p7.2.2.2.2.2.2.2.2.2.2.2.2.2.2.2.2.2.1 p7.2.2.2.2.2.2.2.2.2.2.2.2.2.2.2.2.2.2.1 p7.2.2.2.2.2.2.2.2.2.2.2.2.2.2.2.2.2.2.2.1 p7.2.2.2.2.2.2.2.2.2.2.2.2.2.2.2.2.2.2.2.2.1) (Qk.mk p7.2.2.2.2.2.2.2.2.2.2.2.2.2.2.2.2.2.2.2.2.2.1 p7.2.2.2.2.2.2.2.2.2.2.2.2.2.2.2.2.2.2.2.2.2.2.1 p7.2.2.2.2.2.2.2.2.2.2.2.2.2.2.2.2.2.2.2.2.2.2.2.1 p7.2.2.2.2.2.2.2.2.2.2.2.2.2.2.2.2.2.2.2.2.2.2.2.2.1 p7.2.2.2.2.2.2.2.2.2.2.2.2.2.2.2.2.2.2.2.2.2.2.2.2.2)), p7.1, 0)) (fun (J7 : Int × Int × Int × Bool × Int × Int × Int × (List Int) × Bool × Int × Int × (List Int) × Int × Int × (List Q1) × Bool × Int × Int × Int × (List Q1) × Bool × Int × Int × Int × (List (List ByteArray)) × Bool → Prop) => ((((a0.fb.fm == 1)) = true → ∃ v8, JA a0.fw a1 v8 ∧ J7 (a3, v8.1.fo, v8.1.f8, v8.1.fa, a0.fc.fq, a0.fc.fg, a0.fc.fu, a0.fc.fa7, a0.fc.fa, a0.fy.f7, a0.fy.fu, a0.fy.f4, a0.fa3.fg, a0.fa3.fo, a0.fa3.fh, a0.fa3.fa, a0.ff.fg, a0.ff.fo, a0.ff.fb1, a0.ff.fh, a0.ff.fa, a0.fp.fg, a0.fp.fo, a0.fp.fa8, a0.fp.fx, a0.fp.fa)) ∧ (((a0.fb.fm == 1)) = false → ((((a0.fb.fm == 2)) = true → ∃ v9, Kz a0.fc a1 v9 ∧ J7 (a3, a0.fw.fo, a0.fw.f8, a0.fw.fa, v9.1.fq, v9.1.fg, v9.1.fu, v9.1.fa7, v9.1.fa, a0.fy.f7, a0.fy.fu, a0.fy.f4, a0.fa3.fg, a0.fa3.fo, a0.fa3.fh, a0.fa3.fa, a0.ff.fg, a0.ff.fo, a0.ff.fb1, a0.ff.fh, a0.ff.fa, a0.fp.fg, a0.fp.fo, a0.fp.fa8, a0.fp.fx, a0.fp.fa)) ∧ (((a0.fb.fm == 2)) = false → ((((a0.fb.fm == 3)) = true → ∃ v10, Jf a0.fy a1 v10 ∧ J7 (a3, a0.fw.fo, a0.fw.f8, a0.fw.fa, a0.fc.fq, a0.fc.fg, a0.fc.fu, a0.fc.fa7, a0.fc.fa, v10.1.f7, v10.1.fu, v10.1.f4, a0.fa3.fg, a0.fa3.fo, a0.fa3.fh, a0.fa3.fa, a0.ff.fg, a0.ff.fo, a0.ff.fb1, a0.ff.fh, a0.ff.fa, a0.fp.fg, a0.fp.fo, a0.fp.fa8, a0.fp.fx, a0.fp.fa)) ∧ (((a0.fb.fm == 3)) = false → ((((a0.fb.fm == 4)) = true → ∃ v11, Va a0.fa3 a1 v11 ∧ J7 (a3, a0.fw.fo, a0.fw.f8, a0.fw.fa, a0.fc.fq, a0.fc.fg, a0.fc.fu, a0.fc.fa7, a0.fc.fa, a0.fy.f7, a0.fy.fu, a0.fy.f4, v11.1.fg, v11.1.fo, v11.1.fh, v11.1.fa, a0.ff.fg, a0.ff.fo, a0.ff.fb1, a0.ff.fh, a0.ff.fa, a0.fp.fg, a0.fp.fo, a0.fp.fa8, a0.fp.fx, a0.fp.fa)) ∧ (((a0.fb.fm == 4)) = false → ((((a0.fb.fm == 5)) = true → ∃ v12, KA a0.ff a1 v12 ∧ J7 (a3, a0.fw.fo, a0.fw.f8, a0.fw.fa, a0.fc.fq, a0.fc.fg, a0.fc.fu, a0.fc.fa7, a0.fc.fa, a0.fy.f7, a0.fy.fu, a0.fy.f4, a0.fa3.fg, a0.fa3.fo, a0.fa3.fh, a0.fa3.fa, v12.1.fg, v12.1.fo, v12.1.fb1, v12.1.fh, v12.1.fa, a0.fp.fg, a0.fp.fo, a0.fp.fa8, a0.fp.fx, a0.fp.fa)) ∧ (((a0.fb.fm == 5)) = false → ∃ v13, JB a0.fp a1 a2 a3 v13 ∧ J7 (v13.2.1, a0.fw.fo, a0.fw.f8, a0.fw.fa, a0.fc.fq, a0.fc.fg, a0.fc.fu, a0.fc.fa7, a0.fc.fa, a0.fy.f7, a0.fy.fu, a0.fy.f4, a0.fa3.fg, a0.fa3.fo, a0.fa3.fh, a0.fa3.fa, a0.ff.fg, a0.ff.fo, a0.ff.fb1, a0.ff.fh, a0.ff.fa, v13.1.fg, v13.1.fo, v13.1.fa8, v13.1.fx, v13.1.fa))))))))))))))))))
def Xq (a0 : Qa) (a1 : Qi) (a2 : (List Int)) (a3 : Int) (r : Qa × Int × Int) : Prop := Vb a0 a1 a2 a3 fun x => r = x
theorem F0 {a0 : Qa} {a1 : Qi} {a2 : (List Int)} {a3 : Int} {Post : (Qa × Int × Int) → Prop} (h : Vb a0 a1 a2 a3 Post) : ∃ r, Xq a0 a1 a2 a3 r ∧ Post r := (show GM (Vb a0 a1 a2 a3) (Vb a0 a1 a2 a3) from GM.ex fun v2 => GM.cond (GM.ret _) (GM.ex fun v4 => GM.cond (GM.ret _) (GM.ex fun v6 => GM.cond (GM.ret _) (GM.join (fun p7 => GM.ret _) (fun _ _ J7 => GM.cond (GM.ex fun v8 => J7 _) (GM.cond (GM.ex fun v9 => J7 _) (GM.cond (GM.ex fun v10 => J7 _) (GM.cond (GM.ex fun v11 => J7 _) (GM.cond (GM.ex fun v12 => J7 _) (GM.ex fun v13 => J7 _)))))))))) Post h
theorem F1 {a0 : Qa} {a1 : Qi} {a2 : (List Int)} {a3 : Int} {r : Qa × Int × Int} (h : Xq a0 a1 a2 a3 r) : Qr Tryz.prog 67 [.agg (KS a0), .agg (QL a1), .c (.l 1 (List.map (eI .u8) a2)), .c (.v (.int .i64 a3))] [.agg [.p (.v (.int .i64 r.1.fb.fm)), .p (.v (.int .i64 r.1.fb.fg)), .p (.v (.int .i64 r.1.fb.fq)), .p (.v (.int .u64 r.1.fb.fu)), .p (.v (.int .i64 r.1.fw.fo)), .p (.v (.int .i64 r.1.fw.f8)), .p (.v (.bool r.1.fw.fa)), .p (.v (.int .i64 r.1.fc.fq)), .p (.v (.int .i64 r.1.fc.fg)), .p (.v (.int .u64 r.1.fc.fu)), .p (.l 1 (List.map (eI .i64) r.1.fc.fa7)), .p (.v (.bool r.1.fc.fa)), .p (.v (.int .i64 r.1.fy.f7)), .p (.v (.int .u64 r.1.fy.fu)), .p (.l 1 (List.map (eI .i64) r.1.fy.f4)), .p (.v (.int .i64 r.1.fa3.fg)), .p (.v (.int .i64 r.1.fa3.fo)), .p (.l 3 (List.map Q7 r.1.fa3.fh)), .p (.v (.bool r.1.fa3.fa)), .p (.v (.int .i64 r.1.ff.fg)), .p (.v (.int .i64 r.1.ff.fo)), .p (.v (.int .i64 r.1.ff.fb1)), .p (.l 3 (List.map Q7 r.1.ff.fh)), .p (.v (.bool r.1.ff.fa)), .p (.v (.int .i64 r.1.fp.fg)), .p (.v (.int .i64 r.1.fp.fo)), .p (.v (.int .i64 r.1.fp.fa8)), .p (.l 1 (List.map (eL 1 eS) r.1.fp.fx)), .p (.v (.bool r.1.fp.fa))], .c (.p (.v (.int .i64 r.2.1))), .c (.p (.v (.int .i64 r.2.2)))] [] := by
  refine Qn tb Tryz.func67 Z (by kernel_rfl) Z Z (Nat.le_of_ble_eq_true Z) Z ?_;intro E;unfold Xq Vb at h;refine Z5 (fun Q hQ => ?_);refine tD Z ?_;refine sk fun L1 hL1 => ?_;refine tk fun L hL => ?_;refine dN 1 Z ?_;obtain ⟨v2, hv2, h⟩ := h;refine u0 (QO (UB hv2)) ?_;refine dN 1 Z ?_;refine rt (hL _ ?_);refine tD Z ?_;refine cn h (fun h => ?_) fun h => ?_
  · refine tD Z ?_;obtain rfl := h;exact Qf (hQ _ _ ⟨.inr Z, _, _, _, (.cons (.cella Z Z Z Z Z) (.cons (.p Z) (.cons (.p Z) .nil))), (.cons (.agg (Qq (Qq (Qq (Qq (Qq (Qq (Qq (Qq (Qq (Qq (YN (Qq (Qq (Qq (YN (Qq (Qq (YN (Qq (Qq (Qq (Qq (YN (Qq (Qq (Qq (Qq (YN (Qq .nil)))))))))))))))))))))))))))))) (.cons (.c (.p _)) (.cons (.c (.p _)) .nil))), Z, Z⟩)
  · refine Qh (hL1 _ ?_);refine sk fun L3 hL3 => ?_;refine tk fun L hL => ?_;refine dN 1 Z ?_;obtain ⟨v4, hv4, h⟩ := h;refine u0 (QO (ZG hv4)) ?_;refine dN 1 Z ?_;refine rt (hL _ ?_);refine tD Z ?_;refine cn h (fun h => ?_) fun h => ?_
    · refine tD Z ?_;obtain rfl := h;exact Qf (hQ _ _ ⟨.inr Z, _, _, _, (.cons (.cella Z Z Z Z Z) (.cons (.p Z) (.cons (.p Z) .nil))), (.cons (.agg (Qq (Qq (Qq (Qq (Qq (Qq (Qq (Qq (Qq (Qq (YN (Qq (Qq (Qq (YN (Qq (Qq (YN (Qq (Qq (Qq (Qq (YN (Qq (Qq (Qq (Qq (YN (Qq .nil)))))))))))))))))))))))))))))) (.cons (.c (.p _)) (.cons (.c (.p _)) .nil))), Z, Z⟩)
    · refine Qh (hL3 _ ?_);refine sk fun L5 hL5 => ?_;refine tk fun L hL => ?_;refine dN 1 Z ?_;obtain ⟨v6, hv6, h⟩ := h;refine u0 (QO (Dp hv6)) ?_;refine dN 1 Z ?_;refine rt (hL _ ?_);refine cn h (fun h => ?_) fun h => ?_
      · refine tD Z ?_;obtain rfl := h;exact Qf (hQ _ _ ⟨.inr Z, _, _, _, (.cons (.cella Z Z Z Z Z) (.cons (.p Z) (.cons (.p Z) .nil))), (.cons (.agg (Qq (Qq (Qq (Qq (Qq (Qq (Qq (Qq (Qq (Qq (YN (Qq (Qq (Qq (YN (Qq (Qq (YN (Qq (Qq (Qq (Qq (YN (Qq (Qq (Qq (Qq (YN (Qq .nil)))))))))))))))))))))))))))))) (.cons (.c (.p _)) (.cons (.c (.p _)) .nil))), Z, Z⟩)
      · refine Qh (hL5 _ ?_);refine tD Z ?_;refine Z6 (fun (p7 : Int × Int × Int × Bool × Int × Int × Int × (List Int) × Bool × Int × Int × (List Int) × Int × Int × (List Q1) × Bool × Int × Int × Int × (List Q1) × Bool × Int × Int × Int × (List (List ByteArray)) × Bool) => (⟨[(4, .c (.ptr (4, 0) 0 0)), (8, .c (.ptr (8, 0) 0 0)), (13, .c (.p (.v (.int .i64 p7.1))))], [((4, 0), some (.box ([.p (.v (.int .i64 a0.fb.fm)), .p (.v (.int .i64 a0.fb.fg)), .p (.v (.int .i64 a0.fb.fq)), .p (.v (.int .u64 a0.fb.fu)), .p (.v (.int .i64 p7.2.1)), .p (.v (.int .i64 p7.2.2.1)), .p (.v (.bool p7.2.2.2.1)), .p (.v (.int .i64 p7.2.2.2.2.1)), .p (.v (.int .i64 p7.2.2.2.2.2.1)), .p (.v (.int .u64 p7.2.2.2.2.2.2.1)), .p (.l 1 (List.map (eI .i64) p7.2.2.2.2.2.2.2.1)), .p (.v (.bool p7.2.2.2.2.2.2.2.2.1)), .p (.v (.int .i64 p7.2.2.2.2.2.2.2.2.2.1)), .p (.v (.int .u64 p7.2.2.2.2.2.2.2.2.2.2.1)), .p (.l 1 (List.map (eI .i64) p7.2.2.2.2.2.2.2.2.2.2.2.1)), .p (.v (.int .i64 p7.2.2.2.2.2.2.2.2.2.2.2.2.1)), .p (.v (.int .i64 p7.2.2.2.2.2.2.2.2.2.2.2.2.2.1)), .p (.l 3 (List.map Q7 p7.2.2.2.2.2.2.2.2.2.2.2.2.2.2.1)), .p (.v (.bool p7.2.2.2.2.2.2.2.2.2.2.2.2.2.2.2.1)), .p (.v (.int .i64 p7.2.2.2.2.2.2.2.2.2.2.2.2.2.2.2.2.1)), .p (.v (.int .i64 p7.2.2.2.2.2.2.2.2.2.2.2.2.2.2.2.2.2.1)), .p (.v (.int .i64 p7.2.2.2.2.2.2.2.2.2.2.2.2.2.2.2.2.2.2.1)), .p (.l 3 (List.map Q7 p7.2.2.2.2.2.2.2.2.2.2.2.2.2.2.2.2.2.2.2.1)), .p (.v (.bool p7.2.2.2.2.2.2.2.2.2.2.2.2.2.2.2.2.2.2.2.2.1)), .p (.v (.int .i64 p7.2.2.2.2.2.2.2.2.2.2.2.2.2.2.2.2.2.2.2.2.2.1)), .p (.v (.int .i64 p7.2.2.2.2.2.2.2.2.2.2.2.2.2.2.2.2.2.2.2.2.2.2.1)), .p (.v (.int .i64 p7.2.2.2.2.2.2.2.2.2.2.2.2.2.2.2.2.2.2.2.2.2.2.2.1)), .p (.l 1 (List.map (eL 1 eS) p7.2.2.2.2.2.2.2.2.2.2.2.2.2.2.2.2.2.2.2.2.2.2.2.2.1)), .p (.v (.bool p7.2.2.2.2.2.2.2.2.2.2.2.2.2.2.2.2.2.2.2.2.2.2.2.2.2))]))), ((8, 0), some (.box ([.p (.v (.int .i64 0)), .p (.v (.int .i64 0)), .p (.v (.int .i64 0)), .p (.v (.int .u64 0)), .p (.v (.int .i64 0)), .p (.v (.int .i64 0)), .p (.v (.bool false)), .p (.v (.int .i64 0)), .p (.v (.int .i64 0)), .p (.v (.int .u64 0)), .p (.v (.slice none 0 0)), .p (.v (.bool false)), .p (.v (.int .i64 0)), .p (.v (.int .u64 0)), .p (.v (.slice none 0 0)), .p (.v (.int .i64 0)), .p (.v (.int .i64 0)), .p (.v (.slice none 0 0)), .p (.v (.bool false)), .p (.v (.int .i64 0)), .p (.v (.int .i64 0)), .p (.v (.int .i64 0)), .p (.v (.slice none 0 0)), .p (.v (.bool false)), .p (.v (.int .i64 0)), .p (.v (.int .i64 0)), .p (.v (.int .i64 0)), .p (.v (.slice none 0 0)), .p (.v (.bool false))])))]⟩ : St)) h (fun p7 h => ?_) (fun J7 L7 hL7 h => ?_)
        · refine tD Z ?_;obtain rfl := h;exact Qf (hQ _ _ ⟨.inr Z, _, _, _, (.cons (.cella Z Z Z Z Z) (.cons (.p Z) (.cons (.p Z) .nil))), (.cons (.agg (Qq (Qq (Qq (Qq (Qq (Qq (Qq (Qq (Qq (Qq (Qq (Qq (Qq (Qq (Qq (Qq (Qq (Qq (Qq (Qq (Qq (Qq (Qq (Qq (Qq (Qq (Qq (Qq (Qq .nil)))))))))))))))))))))))))))))) (.cons (.c (.p _)) (.cons (.c (.p _)) .nil))), Z, Z⟩)
        · refine tD Z ?_;refine Qt ?_;refine tD Z ?_;refine cn h (fun h => ?_) fun h => ?_
          · refine tl fun L hL => ?_;refine dN 3 Z ?_;obtain ⟨v8, hv8, h⟩ := h;refine u0 (QO (C3 hv8)) ?_;refine dN 5 Z ?_;refine rt (hL _ (hL7 _ _ h QC.fit))
          · refine tD Z ?_;refine cn h (fun h => ?_) fun h => ?_
            · refine tl fun L hL => ?_;refine dN 3 Z ?_;obtain ⟨v9, hv9, h⟩ := h;refine ul (ZB (Ai hv9)) ?_;refine dN 5 Z ?_;refine rt (hL _ (hL7 _ _ h ((QC.frz (61, 3)).trans ((QC.cells (4, 0) Z (.c (.c (.c (.c (.c (.c (.c (.c (.c (.c (.cons (.fr (b := (61, 3)) Z (QI Z)) (.c (.c (.c (.c (.c (.c (.c (.c (.c (.c (.c (.c (.c (.c (.c (.c (.c (.c .nil)))))))))))))))))))))))))))))).trans QC.fit))))
            · refine tD Z ?_;refine cn h (fun h => ?_) fun h => ?_
              · refine tl fun L hL => ?_;refine dN 3 Z ?_;obtain ⟨v10, hv10, h⟩ := h;refine ul (ZB (Bc hv10)) ?_;refine dN 5 Z ?_;refine rt (hL _ (hL7 _ _ h ((QC.frz (71, 2)).trans ((QC.cells (4, 0) Z (.c (.c (.c (.c (.c (.c (.c (.c (.c (.c (.c (.c (.c (.c (.cons (.fr (b := (71, 2)) Z (QI Z)) (.c (.c (.c (.c (.c (.c (.c (.c (.c (.c (.c (.c (.c (.c .nil)))))))))))))))))))))))))))))).trans QC.fit))))
              · refine tD Z ?_;refine cn h (fun h => ?_) fun h => ?_
                · refine tl fun L hL => ?_;refine dN 3 Z ?_;obtain ⟨v11, hv11, h⟩ := h;refine ul (ZB (Dr hv11)) ?_;refine dN 5 Z ?_;refine rt (hL _ (hL7 _ _ h ((QC.frz (81, 2)).trans ((QC.cells (4, 0) Z (.c (.c (.c (.c (.c (.c (.c (.c (.c (.c (.c (.c (.c (.c (.c (.c (.c (.cons (.fr (b := (81, 2)) Z (QI Z)) (.c (.c (.c (.c (.c (.c (.c (.c (.c (.c (.c .nil)))))))))))))))))))))))))))))).trans QC.fit))))
                · refine tD Z ?_;refine cn h (fun h => ?_) fun h => ?_
                  · refine tl fun L hL => ?_;refine dN 3 Z ?_;obtain ⟨v12, hv12, h⟩ := h;refine ul (ZB (Ak hv12)) ?_;refine dN 5 Z ?_;refine rt (hL _ (hL7 _ _ h ((QC.frz (91, 3)).trans ((QC.cells (4, 0) Z (.c (.c (.c (.c (.c (.c (.c (.c (.c (.c (.c (.c (.c (.c (.c (.c (.c (.c (.c (.c (.c (.c (.cons (.fr (b := (91, 3)) Z (QI Z)) (.c (.c (.c (.c (.c (.c .nil)))))))))))))))))))))))))))))).trans QC.fit))))
                  · refine tl fun L hL => ?_;refine dN 5 Z ?_;obtain ⟨v13, hv13, h⟩ := h;refine u0 (QO (C6 hv13)) ?_;refine dN 7 Z ?_;refine rt (hL _ (hL7 _ _ h QC.fit))
def Yt (a0 : Q6) (a1 : (List Qi)) (a2 : (List Int)) (Q : Qa → Prop) : Prop :=
 ∃ v1, Wo a0 v1 ∧ jn (fun (p2 : Int × Int × Int × Int × Int × Int × Bool × Int × Int × Int × (List Int) × Bool × Int × Int × (List Int) × Int × Int × (List Q1) × Bool × Int × Int × Int × (List Q1) × Bool × Int × Int × Int × (List (List ByteArray)) × Bool) => Q ((Qa.mk (Q6.mk p2.1 p2.2.1 p2.2.2.1 p2.2.2.2.1) (Qo.mk p2.2.2.2.2.1 p2.2.2.2.2.2.1 p2.2.2.2.2.2.2.1) (Q9.mk p2.2.2.2.2.2.2.2.1 p2.2.2.2.2.2.2.2.2.1 p2.2.2.2.2.2.2.2.2.2.1 p2.2.2.2.2.2.2.2.2.2.2.1 p2.2.2.2.2.2.2.2.2.2.2.2.1) (Qj.mk p2.2.2.2.2.2.2.2.2.2.2.2.2.1 p2.2.2.2.2.2.2.2.2.2.2.2.2.2.1 p2.2.2.2.2.2.2.2.2.2.2.2.2.2.2.1) (Qs.mk p2.2.2.2.2.2.2.2.2.2.2.2.2.2.2.2.1 p2.2.2.2.2.2.2.2.2.2.2.2.2.2.2.2.2.1 p2.2.2.2.2.2.2.2.2.2.2.2.2.2.2.2.2.2.1 p2.2.2.2.2.2.2.2.2.2.2.2.2.2.2.2.2.2.2.1) (Qb.mk p2.2.2.2.2.2.2.2.2.2.2.2.2.2.2.2.2.2.2.2.1 p2.2.2.2.2.2.2.2.2.2.2.2.2.2.2.2.2.2.2.2.2.1 p2.2.2.2.2.2.2.2.2.2.2.2.2.2.2.2.2.2.2.2.2.2.1 p2.2.2.2.2.2.2.2.2.2.2.2.2.2.2.2.2.2.2.2.2.2.2.1 p2.2.2.2.2.2.2.2.2.2.2.2.2.2.2.2.2.2.2.2.2.2.2.2.1) (Qk.mk p2.2.2.2.2.2.2.2.2.2.2.2.2.2.2.2.2.2.2.2.2.2.2.2.2.1 p2.2.2.2.2.2.2.2.2.2.2.2.2.2.2.2.2.2.2.2.2.2.2.2.2.2.1 p2.2.2.2.2.2.2.2.2.2.2.2.2.2.2.2.2.2.2.2.2.2.2.2.2.2.2.1 p2.2.2.2.2.2.2.2.2.2.2.2.2.2.2.2.2.2.2.2.2.2.2.2.2.2.2.2.1 p2.2.2.2.2.2.2.2.2.2.2.2.2.2.2.2.2.2.2.2.2.2.2.2.2.2.2.2.2)))) (fun (J2 : Int × Int × Int × Int × Int × Int × Bool × Int × Int × Int × (List Int) × Bool × Int × Int × (List Int) × Int × Int × (List Q1) × Bool × Int × Int × Int × (List Q1) × Bool × Int × Int × Int × (List (List ByteArray)) × Bool → Prop) => lp (fun (X3 : Int × Int × Int × Int × Int × Int × Int × Int × Bool × Int × Int × Int × (List Int) × Bool × Int × Int × (List Int) × Int × Int × (List Q1) × Bool × Int × Int × Int × (List Q1) × Bool × Int × Int × Int × (List (List ByteArray)) × Bool → Prop) (s3 : Int × Int × Int × Int × Int × Int × Int × Int × Bool × Int × Int × Int × (List Int) × Bool × Int × Int × (List Int) × Int × Int × (List Q1) × Bool × Int × Int × Int × (List Q1) × Bool × Int × Int × Int × (List (List ByteArray)) × Bool) => (((decide (s3.2.1 < ((a1.length : Int)))) = true → ∃ v6, ix a1 s3.2.1 v6 ∧ ∃ v7, Xq (Qa.mk (Q6.mk s3.2.2.1 s3.2.2.2.1 s3.2.2.2.2.1 s3.2.2.2.2.2.1) (Qo.mk s3.2.2.2.2.2.2.1 s3.2.2.2.2.2.2.2.1 s3.2.2.2.2.2.2.2.2.1) (Q9.mk s3.2.2.2.2.2.2.2.2.2.1 s3.2.2.2.2.2.2.2.2.2.2.1 s3.2.2.2.2.2.2.2.2.2.2.2.1 s3.2.2.2.2.2.2.2.2.2.2.2.2.1 s3.2.2.2.2.2.2.2.2.2.2.2.2.2.1) (Qj.mk s3.2.2.2.2.2.2.2.2.2.2.2.2.2.2.1 s3.2.2.2.2.2.2.2.2.2.2.2.2.2.2.2.1 s3.2.2.2.2.2.2.2.2.2.2.2.2.2.2.2.2.1) (Qs.mk s3.2.2.2.2.2.2.2.2.2.2.2.2.2.2.2.2.2.1 s3.2.2.2.2.2.2.2.2.2.2.2.2.2.2.2.2.2.2.1 s3.2.2.2.2.2.2.2.2.2.2.2.2.2.2.2.2.2.2.2.1 s3.2.2.2.2.2.2.2.2.2.2.2.2.2.2.2.2.2.2.2.2.1) (Qb.mk s3.2.2.2.2.2.2.2.2.2.2.2.2.2.2.2.2.2.2.2.2.2.1 s3.2.2.2.2.2.2.2.2.2.2.2.2.2.2.2.2.2.2.2.2.2.2.1 s3.2.2.2.2.2.2.2.2.2.2.2.2.2.2.2.2.2.2.2.2.2.2.2.1 s3.2.2.2.2.2.2.2.2.2.2.2.2.2.2.2.2.2.2.2.2.2.2.2.2.1 s3.2.2.2.2.2.2.2.2.2.2.2.2.2.2.2.2.2.2.2.2.2.2.2.2.2.1) (Qk.mk s3.2.2.2.2.2.2.2.2.2.2.2.2.2.2.2.2.2.2.2.2.2.2.2.2.2.2.1 s3.2.2.2.2.2.2.2.2.2.2.2.2.2.2.2.2.2.2.2.2.2.2.2.2.2.2.2.1 s3.2.2.2.2.2.2.2.2.2.2.2.2.2.2.2.2.2.2.2.2.2.2.2.2.2.2.2.2.1 s3.2.2.2.2.2.2.2.2.2.2.2.2.2.2.2.2.2.2.2.2.2.2.2.2.2.2.2.2.2.1 s3.2.2.2.2.2.2.2.2.2.2.2.2.2.2.2.2.2.2.2.2.2.2.2.2.2.2.2.2.2.2)) v6 a2 s3.1 v7 ∧ X3 (v7.2.1, (IntKind.i64.wrap (s3.2.1 + 1)), v7.1.fb.fm, v7.1.fb.fg, v7.1.fb.fq, v7.1.fb.fu, v7.1.fw.fo, v7.1.fw.f8, v7.1.fw.fa, v7.1.fc.fq, v7.1.fc.fg, v7.1.fc.fu, v7.1.fc.fa7, v7.1.fc.fa, v7.1.fy.f7, v7.1.fy.fu, v7.1.fy.f4, v7.1.fa3.fg, v7.1.fa3.fo, v7.1.fa3.fh, v7.1.fa3.fa, v7.1.ff.fg, v7.1.ff.fo, v7.1.ff.fb1, v7.1.ff.fh, v7.1.ff.fa, v7.1.fp.fg, v7.1.fp.fo, v7.1.fp.fa8, v7.1.fp.fx, v7.1.fp.fa)) ∧ ((decide (s3.2.1 < ((a1.length : Int)))) = false → J2 (s3.2.2.1, s3.2.2.2.1, s3.2.2.2.2.1, s3.2.2.2.2.2.1, s3.2.2.2.2.2.2.1, s3.2.2.2.2.2.2.2.1, s3.2.2.2.2.2.2.2.2.1, s3.2.2.2.2.2.2.2.2.2.1, s3.2.2.2.2.2.2.2.2.2.2.1, s3.2.2.2.2.2.2.2.2.2.2.2.1, s3.2.2.2.2.2.2.2.2.2.2.2.2.1, s3.2.2.2.2.2.2.2.2.2.2.2.2.2.1, s3.2.2.2.2.2.2.2.2.2.2.2.2.2.2.1, s3.2.2.2.2.2.2.2.2.2.2.2.2.2.2.2.1, s3.2.2.2.2.2.2.2.2.2.2.2.2.2.2.2.2.1, s3.2.2.2.2.2.2.2.2.2.2.2.2.2.2.2.2.2.1, s3.2.2.2.2.2.2.2.2.2.2.2.2.2.2.2.2.2.2.1, s3.2.2.2.2.2.2.2.2.2.2.2.2.2.2.2.2.2.2.2.1, s3.2.2.2.2.2.2.2.2.2.2.2.2.2.2.2.2.2.2.2.2.1, s3.2.2.2.2.2.2.2.2.2.2.2.2.2.2.2.2.2.2.2.2.2.1, s3.2.2.2.2.2.2.2.2.2.2.2.2.2.2.2.2.2.2.2.2.2.2.1, s3.2.2.2.2.2.2.2.2.2.2.2.2.2.2.2.2.2.2.2.2.2.2.2.1, s3.2.2.2.2.2.2.2.2.2.2.2.2.2.2.2.2.2.2.2.2.2.2.2.2.1, s3.2.2.2.2.2.2.2.2.2.2.2.2.2.2.2.2.2.2.2.2.2.2.2.2.2.1, s3.2.2.2.2.2.2.2.2.2.2.2.2.2.2.2.2.2.2.2.2.2.2.2.2.2.2.1, s3.2.2.2.2.2.2.2.2.2.2.2.2.2.2.2.2.2.2.2.2.2.2.2.2.2.2.2.1, s3.2.2.2.2.2.2.2.2.2.2.2.2.2.2.2.2.2.2.2.2.2.2.2.2.2.2.2.2.1, s3.2.2.2.2.2.2.2.2.2.2.2.2.2.2.2.2.2.2.2.2.2.2.2.2.2.2.2.2.2.1, s3.2.2.2.2.2.2.2.2.2.2.2.2.2.2.2.2.2.2.2.2.2.2.2.2.2.2.2.2.2.2)))) (0, 0, v1.1.fb.fm, v1.1.fb.fg, v1.1.fb.fq, v1.1.fb.fu, v1.1.fw.fo, v1.1.fw.f8, v1.1.fw.fa, v1.1.fc.fq, v1.1.fc.fg, v1.1.fc.fu, v1.1.fc.fa7, v1.1.fc.fa, v1.1.fy.f7, v1.1.fy.fu, v1.1.fy.f4, v1.1.fa3.fg, v1.1.fa3.fo, v1.1.fa3.fh, v1.1.fa3.fa, v1.1.ff.fg, v1.1.ff.fo, v1.1.ff.fb1, v1.1.ff.fh, v1.1.ff.fa, v1.1.fp.fg, v1.1.fp.fo, v1.1.fp.fa8, v1.1.fp.fx, v1.1.fp.fa))
def Wq (a0 : Q6) (a1 : (List Qi)) (a2 : (List Int)) (r : Qa) : Prop := Yt a0 a1 a2 fun x => r = x
theorem HY {a0 : Q6} {a1 : (List Qi)} {a2 : (List Int)} {Post : Qa → Prop} (h : Yt a0 a1 a2 Post) : ∃ r, Wq a0 a1 a2 r ∧ Post r := (show GM (Yt a0 a1 a2) (Yt a0 a1 a2) from GM.ex fun v1 => GM.join (fun p2 => GM.ret _) (fun _ _ J2 => GM.loop (fun X Y Q s3 X3 h => ⟨fun hc => (Exists.elim (h.1 hc) fun v6 hv6 => ⟨v6, hv6.1, (Exists.elim hv6.2 fun v7 hv7 => ⟨v7, hv7.1, X3 _ hv7.2⟩)⟩), fun hc => h.2 hc⟩) (fun _ _ X3 s3 => GM.cond (GM.ex fun v6 => GM.ex fun v7 => X3 _) (J2 _)))) Post h
theorem I0 {a0 : Q6} {a1 : (List Qi)} {a2 : (List Int)} {r : Qa} (h : Wq a0 a1 a2 r) : Qr Tryz.prog 40 [.agg (Vr a0), .c (.l 2 (List.map QL a1)), .c (.l 1 (List.map (eI .u8) a2))] [.agg [.p (.v (.int .i64 r.fb.fm)), .p (.v (.int .i64 r.fb.fg)), .p (.v (.int .i64 r.fb.fq)), .p (.v (.int .u64 r.fb.fu)), .p (.v (.int .i64 r.fw.fo)), .p (.v (.int .i64 r.fw.f8)), .p (.v (.bool r.fw.fa)), .p (.v (.int .i64 r.fc.fq)), .p (.v (.int .i64 r.fc.fg)), .p (.v (.int .u64 r.fc.fu)), .p (.l 1 (List.map (eI .i64) r.fc.fa7)), .p (.v (.bool r.fc.fa)), .p (.v (.int .i64 r.fy.f7)), .p (.v (.int .u64 r.fy.fu)), .p (.l 1 (List.map (eI .i64) r.fy.f4)), .p (.v (.int .i64 r.fa3.fg)), .p (.v (.int .i64 r.fa3.fo)), .p (.l 3 (List.map Q7 r.fa3.fh)), .p (.v (.bool r.fa3.fa)), .p (.v (.int .i64 r.ff.fg)), .p (.v (.int .i64 r.ff.fo)), .p (.v (.int .i64 r.ff.fb1)), .p (.l 3 (List.map Q7 r.ff.fh)), .p (.v (.bool r.ff.fa)), .p (.v (.int .i64 r.fp.fg)), .p (.v (.int .i64 r.fp.fo)), .p (.v (.int .i64 r.fp.fa8)), .p (.l 1 (List.map (eL 1 eS) r.fp.fx)), .p (.v (.bool r.fp.fa))]] [] := by
  refine Qn tb Tryz.func40 Z (by kernel_rfl) Z Z (Nat.le_of_ble_eq_true Z) Z ?_;intro E;unfold Wq Yt at h;refine Z5 (fun Q hQ => ?_);refine tD Z ?_;refine tk fun L hL => ?_;refine dN 1 Z ?_;obtain ⟨v1, hv1, h⟩ := h;refine ul (ZB (HR hv1)) ?_;refine dN 6 Z ?_;refine rt (hL _ ?_);refine tD Z ?_;refine Z6 (fun (p2 : Int × Int × Int × Int × Int × Int × Bool × Int × Int × Int × (List Int) × Bool × Int × Int × (List Int) × Int × Int × (List Q1) × Bool × Int × Int × Int × (List Q1) × Bool × Int × Int × Int × (List (List ByteArray)) × Bool) => (⟨[(6, .c (.ptr (6, 0) 0 0)), (7, .c (.ptr (7, 0) 0 0))], [((6, 0), some (.box ([.p (.v (.int .i64 0)), .p (.v (.int .i64 0)), .p (.v (.int .i64 0)), .p (.v (.int .u64 0)), .p (.v (.int .i64 0)), .p (.v (.int .i64 0)), .p (.v (.bool false)), .p (.v (.int .i64 0)), .p (.v (.int .i64 0)), .p (.v (.int .u64 0)), .p (.v (.slice none 0 0)), .p (.v (.bool false)), .p (.v (.int .i64 0)), .p (.v (.int .u64 0)), .p (.v (.slice none 0 0)), .p (.v (.int .i64 0)), .p (.v (.int .i64 0)), .p (.v (.slice none 0 0)), .p (.v (.bool false)), .p (.v (.int .i64 0)), .p (.v (.int .i64 0)), .p (.v (.int .i64 0)), .p (.v (.slice none 0 0)), .p (.v (.bool false)), .p (.v (.int .i64 0)), .p (.v (.int .i64 0)), .p (.v (.int .i64 0)), .p (.v (.slice none 0 0)), .p (.v (.bool false))]))), ((7, 0), some (.box ([.p (.v (.int .i64 p2.1)), .p (.v (.int .i64 p2.2.1)), .p (.v (.int .i64 p2.2.2.1)), .p (.v (.int .u64 p2.2.2.2.1)), .p (.v (.int .i64 p2.2.2.2.2.1)), .p (.v (.int .i64 p2.2.2.2.2.2.1)), .p (.v (.bool p2.2.2.2.2.2.2.1)), .p (.v (.int .i64 p2.2.2.2.2.2.2.2.1)), .p (.v (.int .i64 p2.2.2.2.2.2.2.2.2.1)), .p (.v (.int .u64 p2.2.2.2.2.2.2.2.2.2.1)), .p (.l 1 (List.map (eI .i64) p2.2.2.2.2.2.2.2.2.2.2.1)), .p (.v (.bool p2.2.2.2.2.2.2.2.2.2.2.2.1)), .p (.v (.int .i64 p2.2.2.2.2.2.2.2.2.2.2.2.2.1)), .p (.v (.int .u64 p2.2.2.2.2.2.2.2.2.2.2.2.2.2.1)), .p (.l 1 (List.map (eI .i64) p2.2.2.2.2.2.2.2.2.2.2.2.2.2.2.1)), .p (.v (.int .i64 p2.2.2.2.2.2.2.2.2.2.2.2.2.2.2.2.1)), .p (.v (.int .i64 p2.2.2.2.2.2.2.2.2.2.2.2.2.2.2.2.2.1)), .p (.l 3 (List.map Q7 p2.2.2.2.2.2.2.2.2.2.2.2.2.2.2.2.2.2.1)), .p (.v (.bool p2.2.2.2.2.2.2.2.2.2.2.2.2.2.2.2.2.2.2.1)), .p (.v (.int .i64 p2.2.2.2.2.2.2.2.2.2.2.2.2.2.2.2.2.2.2.2.1)), .p (.v (.int .i64 p2.2.2.2.2.2.2.2.2.2.2.2.2.2.2.2.2.2.2.2.2.1)), .p (.v (.int .i64 p2.2.2.2.2.2.2.2.2.2.2.2.2.2.2.2.2.2.2.2.2.2.1)), .p (.l 3 (List.map Q7 p2.2.2.2.2.2.2.2.2.2.2.2.2.2.2.2.2.2.2.2.2.2.2.1)), .p (.v (.bool p2.2.2.2.2.2.2.2.2.2.2.2.2.2.2.2.2.2.2.2.2.2.2.2.1)), .p (.v (.int .i64 p2.2.2.2.2.2.2.2.2.2.2.2.2.2.2.2.2.2.2.2.2.2.2.2.2.1)), .p (.v (.int .i64 p2.2.2.2.2.2.2.2.2.2.2.2.2.2.2.2.2.2.2.2.2.2.2.2.2.2.1)), .p (.v (.int .i64 p2.2.2.2.2.2.2.2.2.2.2.2.2.2.2.2.2.2.2.2.2.2.2.2.2.2.2.1)), .p (.l 1 (List.map (eL 1 eS) p2.2.2.2.2.2.2.2.2.2.2.2.2.2.2.2.2.2.2.2.2.2.2.2.2.2.2.2.1)), .p (.v (.bool p2.2.2.2.2.2.2.2.2.2.2.2.2.2.2.2.2.2.2.2.2.2.2.2.2.2.2.2.2))])))]⟩ : St)) h (fun p2 h => ?_) (fun J2 L2 hL2 h => ?_)
  · refine tD Z ?_;obtain rfl := h;exact Qf (hQ _ _ ⟨.inr Z, _, _, _, (.cons (.cella Z Z Z Z Z) .nil), (.cons (.agg (Qq (Qq (Qq (Qq (Qq (Qq (Qq (Qq (Qq (Qq (Qq (Qq (Qq (Qq (Qq (Qq (Qq (Qq (Qq (Qq (Qq (Qq (Qq (Qq (Qq (Qq (Qq (Qq (Qq .nil)))))))))))))))))))))))))))))) .nil), Z, Z⟩)
  · refine tD Z ?_;refine Qt ?_;refine Zr (fun (s3 : Int × Int × Int × Int × Int × Int × Int × Int × Bool × Int × Int × Int × (List Int) × Bool × Int × Int × (List Int) × Int × Int × (List Q1) × Bool × Int × Int × Int × (List Q1) × Bool × Int × Int × Int × (List (List ByteArray)) × Bool) => (⟨[(1, .c (.p (.l 2 (List.map QL a1)))), (2, .c (.p (.l 1 (List.map (eI .u8) a2)))), (6, .c (.ptr (6, 0) 0 0)), (7, .c (.ptr (7, 0) 0 0)), (9, .c (.p (.v (.int .i64 s3.1)))), (10, .c (.p (.v (.int .i64 s3.2.1))))], [((6, 0), some (.box ([.p (.v (.int .i64 0)), .p (.v (.int .i64 0)), .p (.v (.int .i64 0)), .p (.v (.int .u64 0)), .p (.v (.int .i64 0)), .p (.v (.int .i64 0)), .p (.v (.bool false)), .p (.v (.int .i64 0)), .p (.v (.int .i64 0)), .p (.v (.int .u64 0)), .p (.v (.slice none 0 0)), .p (.v (.bool false)), .p (.v (.int .i64 0)), .p (.v (.int .u64 0)), .p (.v (.slice none 0 0)), .p (.v (.int .i64 0)), .p (.v (.int .i64 0)), .p (.v (.slice none 0 0)), .p (.v (.bool false)), .p (.v (.int .i64 0)), .p (.v (.int .i64 0)), .p (.v (.int .i64 0)), .p (.v (.slice none 0 0)), .p (.v (.bool false)), .p (.v (.int .i64 0)), .p (.v (.int .i64 0)), .p (.v (.int .i64 0)), .p (.v (.slice none 0 0)), .p (.v (.bool false))]))), ((7, 0), some (.box ([.p (.v (.int .i64 s3.2.2.1)), .p (.v (.int .i64 s3.2.2.2.1)), .p (.v (.int .i64 s3.2.2.2.2.1)), .p (.v (.int .u64 s3.2.2.2.2.2.1)), .p (.v (.int .i64 s3.2.2.2.2.2.2.1)), .p (.v (.int .i64 s3.2.2.2.2.2.2.2.1)), .p (.v (.bool s3.2.2.2.2.2.2.2.2.1)), .p (.v (.int .i64 s3.2.2.2.2.2.2.2.2.2.1)), .p (.v (.int .i64 s3.2.2.2.2.2.2.2.2.2.2.1)), .p (.v (.int .u64 s3.2.2.2.2.2.2.2.2.2.2.2.1)), .p (.l 1 (List.map (eI .i64) s3.2.2.2.2.2.2.2.2.2.2.2.2.1)), .p (.v (.bool s3.2.2.2.2.2.2.2.2.2.2.2.2.2.1)), .p (.v (.int .i64 s3.2.2.2.2.2.2.2.2.2.2.2.2.2.2.1)), .p (.v (.int .u64 s3.2.2.2.2.2.2.2.2.2.2.2.2.2.2.2.1)), .p (.l 1 (List.map (eI .i64) s3.2.2.2.2.2.2.2.2.2.2.2.2.2.2.2.2.1)), .p (.v (.int .i64 s3.2.2.2.2.2.2.2.2.2.2.2.2.2.2.2.2.2.1)), .p (.v (.int .i64 s3.2.2.2.2.2.2.2.2.2.2.2.2.2.2.2.2.2.2.1)), .p (.l 3 (List.map Q7 s3.2.2.2.2.2.2.2.2.2.2.2.2.2.2.2.2.2.2.2.1)), .p (.v (.bool s3.2.2.2.2.2.2.2.2.2.2.2.2.2.2.2.2.2.2.2.2.1)), .p (.v (.int .i64 s3.2.2.2.2.2.2.2.2.2.2.2.2.2.2.2.2.2.2.2.2.2.1)), .p (.v (.int .i64 s3.2.2.2.2.2.2.2.2.2.2.2.2.2.2.2.2.2.2.2.2.2.2.1)), .p (.v (.int .i64 s3.2.2.2.2.2.2.2.2.2.2.2.2.2.2.2.2.2.2.2.2.2.2.2.1)), .p (.l 3 (List.map Q7 s3.2.2.2.2.2.2.2.2.2.2.2.2.2.2.2.2.2.2.2.2.2.2.2.2.1)), .p (.v (.bool s3.2.2.2.2.2.2.2.2.2.2.2.2.2.2.2.2.2.2.2.2.2.2.2.2.2.1)), .p (.v (.int .i64 s3.2.2.2.2.2.2.2.2.2.2.2.2.2.2.2.2.2.2.2.2.2.2.2.2.2.2.1)), .p (.v (.int .i64 s3.2.2.2.2.2.2.2.2.2.2.2.2.2.2.2.2.2.2.2.2.2.2.2.2.2.2.2.1)), .p (.v (.int .i64 s3.2.2.2.2.2.2.2.2.2.2.2.2.2.2.2.2.2.2.2.2.2.2.2.2.2.2.2.2.1)), .p (.l 1 (List.map (eL 1 eS) s3.2.2.2.2.2.2.2.2.2.2.2.2.2.2.2.2.2.2.2.2.2.2.2.2.2.2.2.2.2.1)), .p (.v (.bool s3.2.2.2.2.2.2.2.2.2.2.2.2.2.2.2.2.2.2.2.2.2.2.2.2.2.2.2.2.2.2))])))]⟩ : St)) h ((QC.frz (13, 10)).trans ((QC.frz (13, 14)).trans ((QC.cells (7, 0) Z (.c (.c (.c (.c (.c (.c (.c (.c (.c (.c (.cons (.fr (b := (13, 10)) Z (QI Z)) (.c (.c (.c (.cons (.fr (b := (13, 14)) Z (QI Z)) (.c (.c (.c (.c (.c (.c (.c (.c (.c (.c (.c (.c (.c (.c .nil)))))))))))))))))))))))))))))).trans QC.fit))) (fun X3 L3 hL3 s3 h => ?_)
    refine sk fun L4 hL4 => ?_;refine tk fun L hL => ?_;refine dN 2 Z ?_;refine u0 QA ?_;refine dN 1 Z ?_;refine rt (hL _ ?_);refine cn h (fun h => ?_) fun h => ?_
    · refine Qh (hL4 _ ?_);refine sk fun L5 hL5 => ?_;refine Qt ?_;refine dl mixed (fun L hL => ?_);refine dN 3 Z ?_;obtain ⟨v6, hv6, h⟩ := h;refine u0 (QD hv6) ?_;refine dN 3 Z ?_;obtain ⟨v7, hv7, h⟩ := h;refine u0 (QO (F1 hv7)) ?_;refine dN 6 Z ?_;refine rd (hL _ (hL5 _ ?_));refine tE Z (hL3 _ _ h QC.fit)
    · refine QQ (hL2 _ _ h QC.fit)
def VT (a0 : (List Int)) (Q : Qa → Prop) : Prop :=
 ∃ v1, VK a0 0 v1 ∧ ∃ v2, VL v1 v2 ∧ ((0 : Int) ≤ (XU ((a0.length : Int)) 2) ∧ (XU ((a0.length : Int)) 2 : Int) ≤ (a0.length : Int)) ∧ ∃ v4, VK a0 1 v4 ∧ ∃ v5, Vt (List.drop (Int.toNat (XU ((a0.length : Int)) 2)) a0) (QV .i64 v4 7) v5 ∧ ∃ v6, VK a0 9 v6 ∧ ∃ v7, JP v6 v7 ∧ ∃ v8, Wq v2 v5 v7 v8 ∧ Q v8
def XZ (a0 : (List Int)) (r : Qa) : Prop := VT a0 fun x => r = x
theorem FH {a0 : (List Int)} {Post : Qa → Prop} (h : VT a0 Post) : ∃ r, XZ a0 r ∧ Post r := (show GM (VT a0) (VT a0) from GM.ex fun v1 => GM.ex fun v2 => GM.and (GM.ex fun v4 => GM.ex fun v5 => GM.ex fun v6 => GM.ex fun v7 => GM.ex fun v8 => GM.ret _)) Post h
theorem FI {a0 : (List Int)} {r : Qa} (h : XZ a0 r) : Qr Tryz.prog 30 [.c (.l 1 (List.map (eI .i64) a0))] [.agg [.p (.v (.int .i64 r.fb.fm)), .p (.v (.int .i64 r.fb.fg)), .p (.v (.int .i64 r.fb.fq)), .p (.v (.int .u64 r.fb.fu)), .p (.v (.int .i64 r.fw.fo)), .p (.v (.int .i64 r.fw.f8)), .p (.v (.bool r.fw.fa)), .p (.v (.int .i64 r.fc.fq)), .p (.v (.int .i64 r.fc.fg)), .p (.v (.int .u64 r.fc.fu)), .p (.l 1 (List.map (eI .i64) r.fc.fa7)), .p (.v (.bool r.fc.fa)), .p (.v (.int .i64 r.fy.f7)), .p (.v (.int .u64 r.fy.fu)), .p (.l 1 (List.map (eI .i64) r.fy.f4)), .p (.v (.int .i64 r.fa3.fg)), .p (.v (.int .i64 r.fa3.fo)), .p (.l 3 (List.map Q7 r.fa3.fh)), .p (.v (.bool r.fa3.fa)), .p (.v (.int .i64 r.ff.fg)), .p (.v (.int .i64 r.ff.fo)), .p (.v (.int .i64 r.ff.fb1)), .p (.l 3 (List.map Q7 r.ff.fh)), .p (.v (.bool r.ff.fa)), .p (.v (.int .i64 r.fp.fg)), .p (.v (.int .i64 r.fp.fo)), .p (.v (.int .i64 r.fp.fa8)), .p (.l 1 (List.map (eL 1 eS) r.fp.fx)), .p (.v (.bool r.fp.fa))]] [] := by
  refine Qn tb Tryz.func30 Z (by kernel_rfl) Z Z (Nat.le_of_ble_eq_true Z) Z ?_;intro E;unfold XZ VT at h;refine Z5 (fun Q hQ => ?_);refine tD Z ?_;refine dk mixed (fun L hL => ?_);refine dN 1 Z ?_;obtain ⟨v1, hv1, h⟩ := h;refine u0 (QO (WL hv1)) ?_;obtain ⟨v2, hv2, h⟩ := h;refine u0 (QO (Bo hv2)) ?_;refine dN 2 Z ?_;refine u0 QA ?_;refine u0 (Cu (n := XU ((a0.length : Int)) 2)) ?_;obtain ⟨hm3, h⟩ := h;refine u0 (BL hm3) ?_;refine dN 1 Z ?_;obtain ⟨v4, hv4, h⟩ := h;refine u0 (QO (WL hv4)) ?_;refine dN 1 Z ?_;obtain ⟨v5, hv5, h⟩ := h;refine ul (ZB (CG hv5)) ?_;refine dN 1 Z ?_;obtain ⟨v6, hv6, h⟩ := h;refine u0 (QO (WL hv6)) ?_;obtain ⟨v7, hv7, h⟩ := h;refine u0 (QO (WJ hv7)) ?_;obtain ⟨v8, hv8, h⟩ := h;refine ul (Xg (I0 hv8) Z Z (.cons (.agg (.pp (.pp (.pp (.pp .nil))))) (.cons (.c (.fr Z (QI Z))) (.cons (.c (.p _)) .nil)))) ?_;refine dN 1 Z ?_;refine rd (hL _ ?_);obtain rfl := h;exact Qf (hQ _ _ ⟨.inr Z, _, _, _, (.cons (.cella Z Z Z Z Z) .nil), (.cons (.agg (Qq (Qq (Qq (Qq (Qq (Qq (Qq (Qq (Qq (Qq (Qq (Qq (Qq (Qq (Qq (Qq (Qq (Qq (Qq (Qq (Qq (Qq (Qq (Qq (Qq (Qq (Qq (Qq (Qq .nil)))))))))))))))))))))))))))))) .nil), Z, Z⟩)
def W0 (a0 : (List Int)) (a1 : Int) (Q : Qp → Prop) : Prop :=
 ∃ v1, VK a0 a1 v1 ∧ ∃ v2, VK a0 (IntKind.i64.wrap (a1 + 7)) v2 ∧ jn (fun (p4 : Bool) => ((p4 = true → ∃ v5, Zs (QS .i64 v1 5) v5 ∧ ∃ v6, VL v2 v6 ∧ Q ((Qp.mk 1 v5 ByteArray.empty ([] : (List ByteArray)) v6 ([] : (List Qi)) ([] : (List Int)) 0 0 0 0 0 0 (Qu.mk 0 ByteArray.empty 0 0 0) ([] : (List Int))))) ∧ (p4 = false → (((((v1.tmod 20) == 2)) = true → ∃ v7, Zs (QS .i64 v1 5) v7 ∧ Q ((Qp.mk 2 v7 ByteArray.empty ([] : (List ByteArray)) (Q6.mk 0 0 0 0) ([] : (List Qi)) ([] : (List Int)) 0 0 0 0 0 0 (Qu.mk 0 ByteArray.empty 0 0 0) ([] : (List Int))))) ∧ ((((v1.tmod 20) == 2)) = false → (((((v1.tmod 20) == 3)) = true → ∃ v8, Zs (QS .i64 v1 5) v8 ∧ ∃ v9, Zs (QS .i64 v1 7) v9 ∧ Q ((Qp.mk 3 v8 v9 ([] : (List ByteArray)) (Q6.mk 0 0 0 0) ([] : (List Qi)) ([] : (List Int)) 0 0 0 0 0 0 (Qu.mk 0 ByteArray.empty 0 0 0) ([] : (List Int))))) ∧ ((((v1.tmod 20) == 3)) = false → (((((v1.tmod 20) == 4)) = true → Q ((Qp.mk 4 ByteArray.empty ByteArray.empty ([] : (List ByteArray)) (Q6.mk 0 0 0 0) ([] : (List Qi)) ([] : (List Int)) 0 0 0 0 0 0 (Qu.mk 0 ByteArray.empty 0 0 0) ([] : (List Int))))) ∧ ((((v1.tmod 20) == 4)) = false → (((((v1.tmod 20) == 5)) = true → ∃ v10, Zs (QS .i64 v1 5) v10 ∧ ∃ v11, XC v2 v11 ∧ Q ((Qp.mk 5 v10 ByteArray.empty ([] : (List ByteArray)) (Q6.mk 0 0 0 0) ([] : (List Qi)) ([] : (List Int)) 0 0 0 0 0 0 v11 ([] : (List Int))))) ∧ ((((v1.tmod 20) == 5)) = false → jn (fun (p12 : Bool) => ((p12 = true → ∃ v13, Zs (QS .i64 v1 5) v13 ∧ ((0 : Int) ≤ (XU ((a0.length : Int)) (a1.tmod 5)) ∧ (XU ((a0.length : Int)) (a1.tmod 5) : Int) ≤ (a0.length : Int)) ∧ ∃ v15, Vt (List.drop (Int.toNat (XU ((a0.length : Int)) (a1.tmod 5))) a0) (IntKind.i64.wrap (1 + (QV .i64 (QS .i64 v1 7) 7))) v15 ∧ ∃ v16, JP v2 v16 ∧ Q ((Qp.mk 6 v13 ByteArray.empty ([] : (List ByteArray)) (Q6.mk 0 0 0 0) v15 v16 0 0 0 0 0 0 (Qu.mk 0 ByteArray.empty 0 0 0) ([] : (List Int))))) ∧ (p12 = false → (((((v1.tmod 20) == 9)) = true → ∃ v17, Zs (QS .i64 v1 5) v17 ∧ ∃ v18, Zs (QS .i64 v1 7) v18 ∧ ∃ v19, JP v2 v19 ∧ Q ((Qp.mk 7 v17 v18 ([] : (List ByteArray)) (Q6.mk 0 0 0 0) ([] : (List Qi)) v19 0 0 0 0 0 0 (Qu.mk 0 ByteArray.empty 0 0 0) ([] : (List Int))))) ∧ ((((v1.tmod 20) == 9)) = false → (((((v1.tmod 20) == 10)) = true → ∃ v20, Zs (QS .i64 v1 5) v20 ∧ ∃ v21, Zs (QS .i64 v1 7) v21 ∧ ∃ v22, JP v2 v22 ∧ Q ((Qp.mk 8 v20 v21 ([] : (List ByteArray)) (Q6.mk 0 0 0 0) ([] : (List Qi)) v22 (IntKind.i64.wrap (1 + (QV .i64 v2 7))) (IntKind.i64.wrap (1 + (QV .i64 (QS .i64 v2 3) 7))) 0 0 0 0 (Qu.mk 0 ByteArray.empty 0 0 0) ([] : (List Int))))) ∧ ((((v1.tmod 20) == 10)) = false → jn (fun (p23 : Bool) => ((p23 = true → ∃ v24, Zs (QS .i64 v1 5) v24 ∧ ∃ v25, Zs (QS .i64 v1 7) v25 ∧ ∃ v26, Zs (QS .i64 v1 8) v26 ∧ ((0 : Int) ≤ (IntKind.i64.wrap ((IntKind.i64.wrap (1 + (QV .i64 (QS .i64 v1 10) 1))) + (QV .i64 (QS .i64 v1 11) 1))) ∧ (IntKind.i64.wrap ((IntKind.i64.wrap (1 + (QV .i64 (QS .i64 v1 10) 1))) + (QV .i64 (QS .i64 v1 11) 1)) : Int) ≤ (((List.map eS ([v24, v25, v26])).length : Nat) : Int)) ∧ Q ((Qp.mk 9 ByteArray.empty ByteArray.empty (List.take (Int.toNat (IntKind.i64.wrap ((IntKind.i64.wrap (1 + (QV .i64 (QS .i64 v1 10) 1))) + (QV .i64 (QS .i64 v1 11) 1)))) ([v24, v25, v26])) (Q6.mk 0 0 0 0) ([] : (List Qi)) ([] : (List Int)) 0 0 0 0 0 0 (Qu.mk 0 ByteArray.empty 0 0 0) ([] : (List Int))))) ∧ (p23 = false → (((((v1.tmod 20) == 13)) = true → ∃ v28, XC v2 v28 ∧ Q ((Qp.mk 10 ByteArray.empty ByteArray.empty ([] : (List ByteArray)) (Q6.mk 0 0 0 0) ([] : (List Qi)) ([] : (List Int)) 0 0 (QV .i64 (QS .i64 v1 5) 1) (QV .i64 (QS .i64 v1 6) 1) 0 0 v28 ([] : (List Int))))) ∧ ((((v1.tmod 20) == 13)) = false → (((((v1.tmod 20) == 14)) = true → Q ((Qp.mk 11 ByteArray.empty ByteArray.empty ([] : (List ByteArray)) (Q6.mk 0 0 0 0) ([] : (List Qi)) ([] : (List Int)) 0 0 (QV .i64 (QS .i64 v1 5) 1) 0 0 0 (Qu.mk 0 ByteArray.empty 0 0 0) ([] : (List Int))))) ∧ ((((v1.tmod 20) == 14)) = false → (((((v1.tmod 20) == 15)) = true → Q ((Qp.mk 12 ByteArray.empty ByteArray.empty ([] : (List ByteArray)) (Q6.mk 0 0 0 0) ([] : (List Qi)) ([] : (List Int)) 0 0 (QV .i64 (QS .i64 v1 5) 1) (QV .i64 (QS .i64 v1 6) 1) 0 0 (Qu.mk 0 ByteArray.empty 0 0 0) ([] : (List Int))))) ∧ ((((v1.tmod 20) == 15)) = false → (((((v1.tmod 20) == 16)) = true → Q ((Qp.mk 13 ByteArray.empty ByteArray.empty ([] : (List ByteArray)) (Q6.mk 0 0 0 0) ([] : (List Qi)) ([] : (List Int)) 0 0 0 0 (QV .i64 (QS .i64 v1 5) 1) (QV .i64 (QS .i64 v1 6) 3) (Qu.mk 0 ByteArray.empty 0 0 0) ([] : (List Int))))) ∧ ((((v1.tmod 20) == 16)) = false → (((((v1.tmod 20) == 17)) = true → Q ((Qp.mk 14 ByteArray.empty ByteArray.empty ([] : (List ByteArray)) (Q6.mk 0 0 0 0) ([] : (List Qi)) ([] : (List Int)) 0 0 0 0 (QV .i64 (QS .i64 v1 5) 1) 0 (Qu.mk 0 ByteArray.empty 0 0 0) ([] : (List Int))))) ∧ ((((v1.tmod 20) == 17)) = false → (((((v1.tmod 20) == 18)) = true → (((((QV .i64 (QS .i64 v1 5) 1) == 1)) = true → Q ((Qp.mk 15 ByteArray.empty ByteArray.empty ([] : (List ByteArray)) (Q6.mk 0 0 0 0) ([] : (List Qi)) ([] : (List Int)) 0 0 (QV .i64 (QS .i64 v1 6) 1) (QV .i64 (QS .i64 v1 7) 1) 0 0 (Qu.mk 0 ByteArray.empty 0 0 0) ([] : (List Int))))) ∧ ((((QV .i64 (QS .i64 v1 5) 1) == 1)) = false → ∃ v30, Zs (QS .i64 v1 6) v30 ∧ ((0 : Int) ≤ (XU ((a0.length : Int)) (a1.tmod 7)) ∧ (XU ((a0.length : Int)) (a1.tmod 7) : Int) ≤ (a0.length : Int)) ∧ ∃ v32, XZ (List.drop (Int.toNat (XU ((a0.length : Int)) (a1.tmod 7))) a0) v32 ∧ ∃ v33, Wa v32 v33 ∧ Q ((Qp.mk 16 v30 ByteArray.empty ([] : (List ByteArray)) (Q6.mk 0 0 0 0) ([] : (List Qi)) ([] : (List Int)) 0 0 0 0 0 0 (Qu.mk 0 ByteArray.empty 0 0 0) v33))))) ∧ ((((v1.tmod 20) == 18)) = false → Q ((Qp.mk 17 ByteArray.empty ByteArray.empty ([] : (List ByteArray)) (Q6.mk 0 0 0 0) ([] : (List Qi)) ([] : (List Int)) 0 0 0 0 0 0 (Qu.mk 0 ByteArray.empty 0 0 0) ([] : (List Int))))))))))))))))))) (fun (J23 : Bool → Prop) => (((((v1.tmod 20) == 11)) = true → J23 ((((v1.tmod 20) == 11)))) ∧ ((((v1.tmod 20) == 11)) = false → J23 ((((v1.tmod 20) == 12))))))))))))) (fun (J12 : Bool → Prop) => (((((v1.tmod 20) == 6)) = true → J12 ((((v1.tmod 20) == 6)))) ∧ ((((v1.tmod 20) == 6)) = false → (((((v1.tmod 20) == 7)) = true → J12 ((((v1.tmod 20) == 7)))) ∧ ((((v1.tmod 20) == 7)) = false → J12 ((((v1.tmod 20) == 8))))))))))))))))))) (fun (J4 : Bool → Prop) => (((((v1.tmod 20) == 0)) = true → J4 ((((v1.tmod 20) == 0)))) ∧ ((((v1.tmod 20) == 0)) = false → J4 ((((v1.tmod 20) == 1))))))
def WM (a0 : (List Int)) (a1 : Int) (r : Qp) : Prop := W0 a0 a1 fun x => r = x
theorem M5 {a0 : (List Int)} {a1 : Int} {Post : Qp → Prop} (h : W0 a0 a1 Post) : ∃ r, WM a0 a1 r ∧ Post r := (show GM (W0 a0 a1) (W0 a0 a1) from GM.ex fun v1 => GM.ex fun v2 => GM.join (fun p4 => GM.cond (GM.ex fun v5 => GM.ex fun v6 => GM.ret _) (GM.cond (GM.ex fun v7 => GM.ret _) (GM.cond (GM.ex fun v8 => GM.ex fun v9 => GM.ret _) (GM.cond (GM.ret _) (GM.cond (GM.ex fun v10 => GM.ex fun v11 => GM.ret _) (GM.join (fun p12 => GM.cond (GM.ex fun v13 => GM.and (GM.ex fun v15 => GM.ex fun v16 => GM.ret _)) (GM.cond (GM.ex fun v17 => GM.ex fun v18 => GM.ex fun v19 => GM.ret _) (GM.cond (GM.ex fun v20 => GM.ex fun v21 => GM.ex fun v22 => GM.ret _) (GM.join (fun p23 => GM.cond (GM.ex fun v24 => GM.ex fun v25 => GM.ex fun v26 => GM.and (GM.ret _)) (GM.cond (GM.ex fun v28 => GM.ret _) (GM.cond (GM.ret _) (GM.cond (GM.ret _) (GM.cond (GM.ret _) (GM.cond (GM.ret _) (GM.cond (GM.cond (GM.ret _) (GM.ex fun v30 => GM.and (GM.ex fun v32 => GM.ex fun v33 => GM.ret _))) (GM.ret _)))))))) (fun _ _ J23 => GM.cond (J23 _) (J23 _)))))) (fun _ _ J12 => GM.cond (J12 _) (GM.cond (J12 _) (J12 _))))))))) (fun _ _ J4 => GM.cond (J4 _) (J4 _))) Post h
theorem Gf {a0 : (List Int)} {a1 : Int} {r : Qp} (h : WM a0 a1 r) : Qr Tryz.prog 8 [.c (.l 1 (List.map (eI .i64) a0)), .c (.v (.int .i64 a1))] [.agg [.p (.v (.int .i64 r.fm)), .p (.v (.string r.fb6)), .p (.v (.string r.fj)), .p (.l 1 (List.map eS r.fa0)), .p (.v (.int .i64 r.fb.fm)), .p (.v (.int .i64 r.fb.fg)), .p (.v (.int .i64 r.fb.fq)), .p (.v (.int .u64 r.fb.fu)), .own 2 (List.map QL r.f8), .p (.l 1 (List.map (eI .u8) r.fb3)), .p (.v (.int .i64 r.fa1)), .p (.v (.int .i64 r.fa9)), .p (.v (.int .i64 r.fa4)), .p (.v (.int .i64 r.fb4)), .p (.v (.int .i64 r.fa5)), .p (.v (.int .i64 r.f0)), .p (.v (.int .i64 r.fv.fm)), .p (.v (.string r.fv.fa2)), .p (.v (.int .i64 r.fv.f0)), .p (.v (.int .i64 r.fv.fb9)), .p (.v (.int .i64 r.fv.fb8)), .own 1 (List.map (eI .u8) r.fb5)]] [] := by
  refine Qn tb Tryz.func8 Z (by kernel_rfl) Z Z (Nat.le_of_ble_eq_true Z) Z ?_;intro E;unfold WM W0 at h;refine Z5 (fun Q hQ => ?_);refine tD Z ?_;refine tk fun L hL => ?_;refine dN 2 Z ?_;obtain ⟨v1, hv1, h⟩ := h;refine u0 (QO (WL hv1)) ?_;refine dN 3 Z ?_;obtain ⟨v2, hv2, h⟩ := h;refine u0 (QO (WL hv2)) ?_;refine dN 2 Z ?_;refine rt (hL _ ?_);refine sk fun L3 hL3 => ?_;refine tD Z ?_;refine Qt ?_;refine Z6 (fun (p4 : Bool) => (⟨[(0, .c (.p (.l 1 (List.map (eI .i64) a0)))), (1, .c (.p (.v (.int .i64 a1)))), (4, .c (.ptr (4, 0) 0 0)), (5, .c (.p (.v (.int .i64 v1)))), (6, .c (.p (.v (.int .i64 v2)))), (16, .c (.p (.v (.int .i64 (v1.tmod 20))))), (17, .c (.p (.v (.bool p4))))], [((4, 0), some (.box ([.p (.v (.int .i64 0)), .p (.v (.string ByteArray.empty)), .p (.v (.string ByteArray.empty)), .p (.v (.slice none 0 0)), .p (.v (.int .i64 0)), .p (.v (.int .i64 0)), .p (.v (.int .i64 0)), .p (.v (.int .u64 0)), .p (.v (.slice none 0 0)), .p (.v (.slice none 0 0)), .p (.v (.int .i64 0)), .p (.v (.int .i64 0)), .p (.v (.int .i64 0)), .p (.v (.int .i64 0)), .p (.v (.int .i64 0)), .p (.v (.int .i64 0)), .p (.v (.int .i64 0)), .p (.v (.string ByteArray.empty)), .p (.v (.int .i64 0)), .p (.v (.int .i64 0)), .p (.v (.int .i64 0)), .p (.v (.slice none 0 0))])))]⟩ : St)) h (fun p4 h => ?_) (fun J4 L4 hL4 h => ?_)
  · refine cn h (fun h => ?_) fun h => ?_
    · refine tk fun L hL => ?_;refine dN 2 Z ?_;obtain ⟨v5, hv5, h⟩ := h;refine u0 (QO (ZZ hv5)) ?_;refine dN 1 Z ?_;obtain ⟨v6, hv6, h⟩ := h;refine u0 (QO (Bo hv6)) ?_;refine dN 2 Z ?_;refine rt (hL _ ?_);obtain rfl := h;exact Qf (hQ _ _ ⟨.inr Z, _, _, _, (.cons (.cella Z Z Z Z Z) .nil), (.cons (.agg (Qq (Qq (Qq (YN (Qq (Qq (Qq (Qq (Ua Z (YN (Qq (Qq (Qq (Qq (Qq (Qq (Qq (Qq (Qq (Qq (Qq (Ua Z .nil))))))))))))))))))))))) .nil), Z, Z⟩)
    · refine tD Z ?_;refine cn h (fun h => ?_) fun h => ?_
      · refine tk fun L hL => ?_;refine dN 2 Z ?_;obtain ⟨v7, hv7, h⟩ := h;refine u0 (QO (ZZ hv7)) ?_;refine dN 2 Z ?_;refine rt (hL _ ?_);obtain rfl := h;exact Qf (hQ _ _ ⟨.inr Z, _, _, _, (.cons (.cella Z Z Z Z Z) .nil), (.cons (.agg (Qq (Qq (Qq (YN (Qq (Qq (Qq (Qq (Ua Z (YN (Qq (Qq (Qq (Qq (Qq (Qq (Qq (Qq (Qq (Qq (Qq (Ua Z .nil))))))))))))))))))))))) .nil), Z, Z⟩)
      · refine tD Z ?_;refine cn h (fun h => ?_) fun h => ?_
        · refine tk fun L hL => ?_;refine dN 2 Z ?_;obtain ⟨v8, hv8, h⟩ := h;refine u0 (QO (ZZ hv8)) ?_;refine dN 2 Z ?_;obtain ⟨v9, hv9, h⟩ := h;refine u0 (QO (ZZ hv9)) ?_;refine dN 2 Z ?_;refine rt (hL _ ?_);obtain rfl := h;exact Qf (hQ _ _ ⟨.inr Z, _, _, _, (.cons (.cella Z Z Z Z Z) .nil), (.cons (.agg (Qq (Qq (Qq (YN (Qq (Qq (Qq (Qq (Ua Z (YN (Qq (Qq (Qq (Qq (Qq (Qq (Qq (Qq (Qq (Qq (Qq (Ua Z .nil))))))))))))))))))))))) .nil), Z, Z⟩)
        · refine tD Z ?_;refine cn h (fun h => ?_) fun h => ?_
          · refine tD Z ?_;obtain rfl := h;exact Qf (hQ _ _ ⟨.inr Z, _, _, _, (.cons (.cella Z Z Z Z Z) .nil), (.cons (.agg (Qq (Qq (Qq (YN (Qq (Qq (Qq (Qq (Ua Z (YN (Qq (Qq (Qq (Qq (Qq (Qq (Qq (Qq (Qq (Qq (Qq (Ua Z .nil))))))))))))))))))))))) .nil), Z, Z⟩)
          · refine tD Z ?_;refine cn h (fun h => ?_) fun h => ?_
            · refine tk fun L hL => ?_;refine dN 2 Z ?_;obtain ⟨v10, hv10, h⟩ := h;refine u0 (QO (ZZ hv10)) ?_;refine dN 1 Z ?_;obtain ⟨v11, hv11, h⟩ := h;refine u0 (QO (CF hv11)) ?_;refine dN 2 Z ?_;refine rt (hL _ ?_);obtain rfl := h;exact Qf (hQ _ _ ⟨.inr Z, _, _, _, (.cons (.cella Z Z Z Z Z) .nil), (.cons (.agg (Qq (Qq (Qq (YN (Qq (Qq (Qq (Qq (Ua Z (YN (Qq (Qq (Qq (Qq (Qq (Qq (Qq (Qq (Qq (Qq (Qq (Ua Z .nil))))))))))))))))))))))) .nil), Z, Z⟩)
            · refine Z6 (fun (p12 : Bool) => (⟨[(0, .c (.p (.l 1 (List.map (eI .i64) a0)))), (1, .c (.p (.v (.int .i64 a1)))), (4, .c (.ptr (4, 0) 0 0)), (5, .c (.p (.v (.int .i64 v1)))), (6, .c (.p (.v (.int .i64 v2)))), (16, .c (.p (.v (.int .i64 (v1.tmod 20))))), (52, .c (.p (.v (.bool p12))))], [((4, 0), some (.box ([.p (.v (.int .i64 0)), .p (.v (.string ByteArray.empty)), .p (.v (.string ByteArray.empty)), .p (.v (.slice none 0 0)), .p (.v (.int .i64 0)), .p (.v (.int .i64 0)), .p (.v (.int .i64 0)), .p (.v (.int .u64 0)), .p (.v (.slice none 0 0)), .p (.v (.slice none 0 0)), .p (.v (.int .i64 0)), .p (.v (.int .i64 0)), .p (.v (.int .i64 0)), .p (.v (.int .i64 0)), .p (.v (.int .i64 0)), .p (.v (.int .i64 0)), .p (.v (.int .i64 0)), .p (.v (.string ByteArray.empty)), .p (.v (.int .i64 0)), .p (.v (.int .i64 0)), .p (.v (.int .i64 0)), .p (.v (.slice none 0 0))])))]⟩ : St)) h (fun p12 h => ?_) (fun J12 L12 hL12 h => ?_)
              · refine cn h (fun h => ?_) fun h => ?_
                · refine dk mixed (fun L hL => ?_);refine dN 2 Z ?_;obtain ⟨v13, hv13, h⟩ := h;refine u0 (QO (ZZ hv13)) ?_;refine dN 2 Z ?_;refine u0 QA ?_;refine dN 2 Z ?_;refine u0 (Cu (n := XU ((a0.length : Int)) (a1.tmod 5))) ?_;obtain ⟨hm14, h⟩ := h;refine u0 (BL hm14) ?_;refine dN 4 Z ?_;obtain ⟨v15, hv15, h⟩ := h;refine ul (ZB (CG hv15)) ?_;refine dN 1 Z ?_;obtain ⟨v16, hv16, h⟩ := h;refine u0 (QO (WJ hv16)) ?_;refine dN 2 Z ?_;refine rd (hL _ ?_);obtain rfl := h;exact Qf (hQ _ _ ⟨.inr Z, _, _, _, (.cons (.cella Z Z Z Z Z) .nil), (.cons (.agg (Qq (Qq (Qq (YN (Qq (Qq (Qq (Qq (.cons (.own Z Z) (Qq (Qq (Qq (Qq (Qq (Qq (Qq (Qq (Qq (Qq (Qq (Qq (Ua Z .nil))))))))))))))))))))))) .nil), Z, Z⟩)
                · refine tD Z ?_;refine cn h (fun h => ?_) fun h => ?_
                  · refine tk fun L hL => ?_;refine dN 2 Z ?_;obtain ⟨v17, hv17, h⟩ := h;refine u0 (QO (ZZ hv17)) ?_;refine dN 2 Z ?_;obtain ⟨v18, hv18, h⟩ := h;refine u0 (QO (ZZ hv18)) ?_;refine dN 1 Z ?_;obtain ⟨v19, hv19, h⟩ := h;refine u0 (QO (WJ hv19)) ?_;refine dN 2 Z ?_;refine rt (hL _ ?_);obtain rfl := h;exact Qf (hQ _ _ ⟨.inr Z, _, _, _, (.cons (.cella Z Z Z Z Z) .nil), (.cons (.agg (Qq (Qq (Qq (YN (Qq (Qq (Qq (Qq (Ua Z (Qq (Qq (Qq (Qq (Qq (Qq (Qq (Qq (Qq (Qq (Qq (Qq (Ua Z .nil))))))))))))))))))))))) .nil), Z, Z⟩)
                  · refine tD Z ?_;refine cn h (fun h => ?_) fun h => ?_
                    · refine tk fun L hL => ?_;refine dN 2 Z ?_;obtain ⟨v20, hv20, h⟩ := h;refine u0 (QO (ZZ hv20)) ?_;refine dN 2 Z ?_;obtain ⟨v21, hv21, h⟩ := h;refine u0 (QO (ZZ hv21)) ?_;refine dN 1 Z ?_;obtain ⟨v22, hv22, h⟩ := h;refine u0 (QO (WJ hv22)) ?_;refine dN 9 Z ?_;refine rt (hL _ ?_);obtain rfl := h;exact Qf (hQ _ _ ⟨.inr Z, _, _, _, (.cons (.cella Z Z Z Z Z) .nil), (.cons (.agg (Qq (Qq (Qq (YN (Qq (Qq (Qq (Qq (Ua Z (Qq (Qq (Qq (Qq (Qq (Qq (Qq (Qq (Qq (Qq (Qq (Qq (Ua Z .nil))))))))))))))))))))))) .nil), Z, Z⟩)
                    · refine Z6 (fun (p23 : Bool) => (⟨[(0, .c (.p (.l 1 (List.map (eI .i64) a0)))), (1, .c (.p (.v (.int .i64 a1)))), (4, .c (.ptr (4, 0) 0 0)), (5, .c (.p (.v (.int .i64 v1)))), (6, .c (.p (.v (.int .i64 v2)))), (16, .c (.p (.v (.int .i64 (v1.tmod 20))))), (103, .c (.p (.v (.bool p23))))], [((4, 0), some (.box ([.p (.v (.int .i64 0)), .p (.v (.string ByteArray.empty)), .p (.v (.string ByteArray.empty)), .p (.v (.slice none 0 0)), .p (.v (.int .i64 0)), .p (.v (.int .i64 0)), .p (.v (.int .i64 0)), .p (.v (.int .u64 0)), .p (.v (.slice none 0 0)), .p (.v (.slice none 0 0)), .p (.v (.int .i64 0)), .p (.v (.int .i64 0)), .p (.v (.int .i64 0)), .p (.v (.int .i64 0)), .p (.v (.int .i64 0)), .p (.v (.int .i64 0)), .p (.v (.int .i64 0)), .p (.v (.string ByteArray.empty)), .p (.v (.int .i64 0)), .p (.v (.int .i64 0)), .p (.v (.int .i64 0)), .p (.v (.slice none 0 0))])))]⟩ : St)) h (fun p23 h => ?_) (fun J23 L23 hL23 h => ?_)
                      · refine cn h (fun h => ?_) fun h => ?_
                        · refine tk fun L hL => ?_;refine dN 2 Z ?_;obtain ⟨v24, hv24, h⟩ := h;refine u0 (QO (ZZ hv24)) ?_;refine dN 2 Z ?_;obtain ⟨v25, hv25, h⟩ := h;refine u0 (QO (ZZ hv25)) ?_;refine dN 2 Z ?_;obtain ⟨v26, hv26, h⟩ := h;refine u0 (QO (ZZ hv26)) ?_;refine ul (QF (rows := List.map eS [v24, v25, v26])) ?_;refine dN 3 Z ?_;refine rt (hL _ ?_);refine tk fun L hL => ?_;refine dN 10 Z ?_;obtain ⟨hm27, h⟩ := h;refine u0 (Ll hm27) ?_;refine dN 2 Z ?_;refine rt (hL _ ?_);refine tD Z ?_;obtain rfl := h;exact Qf (hQ _ _ ⟨.inr Z, _, _, _, (.cons (.cella Z Z Z Z Z) .nil), (.cons (.agg (Qq (Qq (Qq (.cons (.fr Z Ln) (Qq (Qq (Qq (Qq (Ua Z (YN (Qq (Qq (Qq (Qq (Qq (Qq (Qq (Qq (Qq (Qq (Qq (Ua Z .nil))))))))))))))))))))))) .nil), Z, Z⟩)
                        · refine tD Z ?_;refine cn h (fun h => ?_) fun h => ?_
                          · refine tk fun L hL => ?_;refine dN 7 Z ?_;obtain ⟨v28, hv28, h⟩ := h;refine u0 (QO (CF hv28)) ?_;refine dN 2 Z ?_;refine rt (hL _ ?_);obtain rfl := h;exact Qf (hQ _ _ ⟨.inr Z, _, _, _, (.cons (.cella Z Z Z Z Z) .nil), (.cons (.agg (Qq (Qq (Qq (YN (Qq (Qq (Qq (Qq (Ua Z (YN (Qq (Qq (Qq (Qq (Qq (Qq (Qq (Qq (Qq (Qq (Qq (Ua Z .nil))))))))))))))))))))))) .nil), Z, Z⟩)
                          · refine tD Z ?_;refine cn h (fun h => ?_) fun h => ?_
                            · refine tD Z ?_;obtain rfl := h;exact Qf (hQ _ _ ⟨.inr Z, _, _, _, (.cons (.cella Z Z Z Z Z) .nil), (.cons (.agg (Qq (Qq (Qq (YN (Qq (Qq (Qq (Qq (Ua Z (YN (Qq (Qq (Qq (Qq (Qq (Qq (Qq (Qq (Qq (Qq (Qq (Ua Z .nil))))))))))))))))))))))) .nil), Z, Z⟩)
                            · refine tD Z ?_;refine cn h (fun h => ?_) fun h => ?_
                              · refine tD Z ?_;obtain rfl := h;exact Qf (hQ _ _ ⟨.inr Z, _, _, _, (.cons (.cella Z Z Z Z Z) .nil), (.cons (.agg (Qq (Qq (Qq (YN (Qq (Qq (Qq (Qq (Ua Z (YN (Qq (Qq (Qq (Qq (Qq (Qq (Qq (Qq (Qq (Qq (Qq (Ua Z .nil))))))))))))))))))))))) .nil), Z, Z⟩)
                              · refine tD Z ?_;refine cn h (fun h => ?_) fun h => ?_
                                · refine tD Z ?_;obtain rfl := h;exact Qf (hQ _ _ ⟨.inr Z, _, _, _, (.cons (.cella Z Z Z Z Z) .nil), (.cons (.agg (Qq (Qq (Qq (YN (Qq (Qq (Qq (Qq (Ua Z (YN (Qq (Qq (Qq (Qq (Qq (Qq (Qq (Qq (Qq (Qq (Qq (Ua Z .nil))))))))))))))))))))))) .nil), Z, Z⟩)
                                · refine tD Z ?_;refine cn h (fun h => ?_) fun h => ?_
                                  · refine tD Z ?_;obtain rfl := h;exact Qf (hQ _ _ ⟨.inr Z, _, _, _, (.cons (.cella Z Z Z Z Z) .nil), (.cons (.agg (Qq (Qq (Qq (YN (Qq (Qq (Qq (Qq (Ua Z (YN (Qq (Qq (Qq (Qq (Qq (Qq (Qq (Qq (Qq (Qq (Qq (Ua Z .nil))))))))))))))))))))))) .nil), Z, Z⟩)
                                  · refine tD Z ?_;refine cn h (fun h => ?_) fun h => ?_
                                    · refine sk fun L29 hL29 => ?_;refine tD Z ?_;refine cn h (fun h => ?_) fun h => ?_
                                      · refine tD Z ?_;obtain rfl := h;exact Qf (hQ _ _ ⟨.inr Z, _, _, _, (.cons (.cella Z Z Z Z Z) .nil), (.cons (.agg (Qq (Qq (Qq (YN (Qq (Qq (Qq (Qq (Ua Z (YN (Qq (Qq (Qq (Qq (Qq (Qq (Qq (Qq (Qq (Qq (Qq (Ua Z .nil))))))))))))))))))))))) .nil), Z, Z⟩)
                                      · refine Qh (hL29 _ ?_);refine dk mixed (fun L hL => ?_);refine dN 2 Z ?_;obtain ⟨v30, hv30, h⟩ := h;refine u0 (QO (ZZ hv30)) ?_;refine dN 2 Z ?_;refine u0 QA ?_;refine dN 2 Z ?_;refine u0 (Cu (n := XU ((a0.length : Int)) (a1.tmod 7))) ?_;obtain ⟨hm31, h⟩ := h;refine u0 (BL hm31) ?_;obtain ⟨v32, hv32, h⟩ := h;refine u0 (QO (FI hv32)) ?_;obtain ⟨v33, hv33, h⟩ := h;refine ul (ZB (Fw hv33)) ?_;refine dN 2 Z ?_;refine rd (hL _ ?_);obtain rfl := h;exact Qf (hQ _ _ ⟨.inr Z, _, _, _, (.cons (.cella Z Z Z Z Z) .nil), (.cons (.agg (Qq (Qq (Qq (YN (Qq (Qq (Qq (Qq (Ua Z (YN (Qq (Qq (Qq (Qq (Qq (Qq (Qq (Qq (Qq (Qq (Qq (.cons (.own Z Z) .nil))))))))))))))))))))))) .nil), Z, Z⟩)
                                    · refine Qh (hL3 _ ?_);refine tD Z ?_;obtain rfl := h;exact Qf (hQ _ _ ⟨.inr Z, _, _, _, (.cons (.cella Z Z Z Z Z) .nil), (.cons (.agg (Qq (Qq (Qq (YN (Qq (Qq (Qq (Qq (Ua Z (YN (Qq (Qq (Qq (Qq (Qq (Qq (Qq (Qq (Qq (Qq (Qq (Ua Z .nil))))))))))))))))))))))) .nil), Z, Z⟩)
                      · refine tD Z ?_;refine cn h (fun h => ?_) fun h => ?_
                        · refine Qh (hL23 _ _ h QC.fit)
                        · refine tE Z (hL23 _ _ h QC.fit)
              · refine tD Z ?_;refine cn h (fun h => ?_) fun h => ?_
                · refine Qh (hL12 _ _ h QC.fit)
                · refine tD Z ?_;refine cn h (fun h => ?_) fun h => ?_
                  · refine Qh (hL12 _ _ h QC.fit)
                  · refine tE Z (hL12 _ _ h QC.fit)
  · refine tD Z ?_;refine cn h (fun h => ?_) fun h => ?_
    · refine Qh (hL4 _ _ h QC.fit)
    · refine tE Z (hL4 _ _ h QC.fit)
def WV (a0 : Int) (a1 : Int) (a2 : Int) (Q : Bool → Prop) : Prop :=
 Q (((bif decide (a0 ≥ a1) then decide (a0 ≤ a2) else false)))
def Zp (a0 : Int) (a1 : Int) (a2 : Int) (r : Bool) : Prop := WV a0 a1 a2 fun x => r = x
theorem Kr {a0 : Int} {a1 : Int} {a2 : Int} {r : Bool} (h : Zp a0 a1 a2 r) : Qr Tryz.prog 50 [.c (.v (.int .i64 a0)), .c (.v (.int .i64 a1)), .c (.v (.int .i64 a2))] [.c (.p (.v (.bool r)))] [] := by
  refine Qn tb Tryz.func50 Z (by kernel_rfl) Z Z (Nat.le_of_ble_eq_true Z) Z ?_;intro E;unfold Zp WV at h;refine Z5 (fun Q hQ => ?_);refine tD Z ?_;refine tk fun L hL => ?_;refine dN 4 Z ?_;refine Q2 Z Z Qe (fun hg => Q8 Z Z) ?_;refine Q2 Z Z Qe (fun hg => Q8 Z Z) ?_;refine Q2 Z Z Qe (fun hg => Qz (c := decide (a0 ≤ a2)) (Qd hg) (Qd hg) Z Z Z) ?_;refine u0 (Qm (v := .bool (decide (a0 ≤ a2))) (w := .bool false) Z Z Qe Z Qw) ?_;refine dN 1 Z ?_;refine rt (hL _ ?_);obtain rfl := h;exact Qf (hQ _ _ (Zv Z Z))
def C7 (a0 : Int) (a1 : (List Int)) (Q : Bool → Prop) : Prop :=
 jn (fun (p1 : Unit) => Q false) (fun (J1 : Unit → Prop) => lp (fun (X2 : Int → Prop) (s2 : Int) => (((decide (s2 < ((a1.length : Int)))) = true → ∃ v5, ix a1 s2 v5 ∧ ((((v5 == a0)) = true → Q true) ∧ (((v5 == a0)) = false → X2 ((IntKind.i64.wrap (s2 + 1)))))) ∧ ((decide (s2 < ((a1.length : Int)))) = false → J1 (())))) 0)
def ZP (a0 : Int) (a1 : (List Int)) (r : Bool) : Prop := C7 a0 a1 fun x => r = x
theorem KP {a0 : Int} {a1 : (List Int)} {r : Bool} (h : ZP a0 a1 r) : Qr Tryz.prog 77 [.c (.v (.int .i64 a0)), .c (.l 1 (List.map (eI .i64) a1))] [.c (.p (.v (.bool r)))] [] := by
  refine Qn tb Tryz.func77 Z (by kernel_rfl) Z Z (Nat.le_of_ble_eq_true Z) Z ?_;intro E;unfold ZP C7 at h;refine Z5 (fun Q hQ => ?_);refine tD Z ?_;refine Z6 (fun (p1 : Unit) => (⟨[], []⟩ : St)) h (fun p1 h => ?_) (fun J1 L1 hL1 h => ?_)
  · refine tD Z ?_;obtain rfl := h;exact Qf (hQ _ _ (Zv Z Z))
  · refine tD Z ?_;refine Qt ?_;refine Zr (fun (s2 : Int) => (⟨[(0, .c (.p (.v (.int .i64 a0)))), (1, .c (.p (.l 1 (List.map (eI .i64) a1)))), (5, .c (.p (.v (.int .i64 s2))))], []⟩ : St)) h QC.fit (fun X2 L2 hL2 s2 h => ?_);refine sk fun L3 hL3 => ?_;refine tk fun L hL => ?_;refine dN 2 Z ?_;refine u0 QA ?_;refine dN 1 Z ?_;refine rt (hL _ ?_);refine cn h (fun h => ?_) fun h => ?_
    · refine Qh (hL3 _ ?_);refine sk fun L4 hL4 => ?_;refine Qt ?_;refine tk fun L hL => ?_;refine dN 2 Z ?_;obtain ⟨v5, hv5, h⟩ := h;refine u0 (QD hv5) ?_;refine dN 3 Z ?_;refine rt (hL _ ?_);refine cn h (fun h => ?_) fun h => ?_
      · refine tD Z ?_;obtain rfl := h;exact Qf (hQ _ _ (Zv Z Z))
      · refine Qh (hL4 _ ?_);refine tE Z (hL2 _ _ h QC.fit)
    · refine QQ (hL1 _ _ h QC.fit)
def UV (a0 : Int) (Q : Ko → Prop) : Prop :=
 ∃ v1, ZP a0 ([1, 2, 3, 5, 6, 7, 8, 16]) v1 ∧ ∃ v2, ZP a0 ([3, 7, 8]) v2 ∧ ∃ v3, ZP a0 ([9]) v3 ∧ ∃ v4, ZP a0 ([1]) v4 ∧ ∃ v5, ZP a0 ([6]) v5 ∧ ∃ v6, ZP a0 ([6, 7, 8]) v6 ∧ ∃ v7, ZP a0 ([8]) v7 ∧ ∃ v8, ZP a0 ([10, 11, 12, 15]) v8 ∧ ∃ v9, ZP a0 ([10, 12, 15]) v9 ∧ ∃ v10, ZP a0 ([13, 14]) v10 ∧ ∃ v11, ZP a0 ([13]) v11 ∧ ∃ v12, ZP a0 ([5, 10]) v12 ∧ ∃ v13, ZP a0 ([16]) v13 ∧ Q ((Ko.mk v1 v2 v3 v4 v5 v6 v7 v8 v9 v10 v11 v12 v13))
def YD (a0 : Int) (r : Ko) : Prop := UV a0 fun x => r = x
theorem GT {a0 : Int} {r : Ko} (h : YD a0 r) : Qr Tryz.prog 51 [.c (.v (.int .i64 a0))] [.agg [.p (.v (.bool r.fe0)), .p (.v (.bool r.fe1)), .p (.v (.bool r.fe2)), .p (.v (.bool r.fe3)), .p (.v (.bool r.fe4)), .p (.v (.bool r.fe5)), .p (.v (.bool r.fe6)), .p (.v (.bool r.fe7)), .p (.v (.bool r.fe8)), .p (.v (.bool r.fe9)), .p (.v (.bool r.fe10)), .p (.v (.bool r.fe11)), .p (.v (.bool r.fe12))]] [] := by
  refine Qn tb Tryz.func51 Z (by kernel_rfl) Z Z (Nat.le_of_ble_eq_true Z) Z ?_;intro E;unfold YD UV at h;refine Z5 (fun Q hQ => ?_);refine tD Z ?_;refine tk fun L hL => ?_;refine dN 1 Z ?_;refine ul (QF (rows := List.map (eI .i64) [1, 2, 3, 5, 6, 7, 8, 16])) ?_;obtain ⟨v1, hv1, h⟩ := h;refine ul (Zf (KP hv1) (YM (K8.cons (.p Z) K8.nil)) Z Z (.cons (.c (.p _)) (.cons (.c (.fr Z (QI Z))) .nil))) ?_;refine dN 1 Z ?_;refine ul (QF (rows := List.map (eI .i64) [3, 7, 8])) ?_;obtain ⟨v2, hv2, h⟩ := h;refine ul (Zf (KP hv2) (YM (K8.cons (.p Z) K8.nil)) Z Z (.cons (.c (.p _)) (.cons (.c (.fr Z (QI Z))) .nil))) ?_;refine dN 1 Z ?_;refine ul (QF (rows := List.map (eI .i64) [9])) ?_;obtain ⟨v3, hv3, h⟩ := h;refine ul (Zf (KP hv3) (YM (K8.cons (.p Z) K8.nil)) Z Z (.cons (.c (.p _)) (.cons (.c (.fr Z (QI Z))) .nil))) ?_;refine dN 1 Z ?_;refine ul (QF (rows := List.map (eI .i64) [1])) ?_;obtain ⟨v4, hv4, h⟩ := h;refine ul (Zf (KP hv4) (YM (K8.cons (.p Z) K8.nil)) Z Z (.cons (.c (.p _)) (.cons (.c (.fr Z (QI Z))) .nil))) ?_;refine dN 1 Z ?_
  refine ul (QF (rows := List.map (eI .i64) [6])) ?_;obtain ⟨v5, hv5, h⟩ := h;refine ul (Zf (KP hv5) (YM (K8.cons (.p Z) K8.nil)) Z Z (.cons (.c (.p _)) (.cons (.c (.fr Z (QI Z))) .nil))) ?_;refine dN 1 Z ?_;refine ul (QF (rows := List.map (eI .i64) [6, 7, 8])) ?_;obtain ⟨v6, hv6, h⟩ := h;refine ul (Zf (KP hv6) (YM (K8.cons (.p Z) K8.nil)) Z Z (.cons (.c (.p _)) (.cons (.c (.fr Z (QI Z))) .nil))) ?_;refine dN 1 Z ?_;refine ul (QF (rows := List.map (eI .i64) [8])) ?_;obtain ⟨v7, hv7, h⟩ := h;refine ul (Zf (KP hv7) (YM (K8.cons (.p Z) K8.nil)) Z Z (.cons (.c (.p _)) (.cons (.c (.fr Z (QI Z))) .nil))) ?_;refine dN 1 Z ?_;refine ul (QF (rows := List.map (eI .i64) [10, 11, 12, 15])) ?_;obtain ⟨v8, hv8, h⟩ := h;refine ul (Zf (KP hv8) (YM (K8.cons (.p Z) K8.nil)) Z Z (.cons (.c (.p _)) (.cons (.c (.fr Z (QI Z))) .nil))) ?_;refine dN 1 Z ?_;refine ul (QF (rows := List.map (eI .i64) [10, 12, 15])) ?_;obtain ⟨v9, hv9, h⟩ := h;refine ul (Zf (KP hv9) (YM (K8.cons (.p Z) K8.nil)) Z Z (.cons (.c (.p _)) (.cons (.c (.fr Z (QI Z))) .nil))) ?_
  refine dN 1 Z ?_;refine ul (QF (rows := List.map (eI .i64) [13, 14])) ?_;obtain ⟨v10, hv10, h⟩ := h;refine ul (Zf (KP hv10) (YM (K8.cons (.p Z) K8.nil)) Z Z (.cons (.c (.p _)) (.cons (.c (.fr Z (QI Z))) .nil))) ?_;refine dN 1 Z ?_;refine ul (QF (rows := List.map (eI .i64) [13])) ?_;obtain ⟨v11, hv11, h⟩ := h;refine ul (Zf (KP hv11) (YM (K8.cons (.p Z) K8.nil)) Z Z (.cons (.c (.p _)) (.cons (.c (.fr Z (QI Z))) .nil))) ?_;refine dN 1 Z ?_;refine ul (QF (rows := List.map (eI .i64) [5, 10])) ?_;obtain ⟨v12, hv12, h⟩ := h;refine ul (Zf (KP hv12) (YM (K8.cons (.p Z) K8.nil)) Z Z (.cons (.c (.p _)) (.cons (.c (.fr Z (QI Z))) .nil))) ?_;refine dN 1 Z ?_;refine ul (QF (rows := List.map (eI .i64) [16])) ?_;obtain ⟨v13, hv13, h⟩ := h;refine ul (Zf (KP hv13) (YM (K8.cons (.p Z) K8.nil)) Z Z (.cons (.c (.p _)) (.cons (.c (.fr Z (QI Z))) .nil))) ?_;refine u0 (HF (cs := [.p (.v (.bool v1)), .p (.v (.bool v2)), .p (.v (.bool v3)), .p (.v (.bool v4)), .p (.v (.bool v5)), .p (.v (.bool v6)), .p (.v (.bool v7)), .p (.v (.bool v8)), .p (.v (.bool v9)), .p (.v (.bool v10)), .p (.v (.bool v11)), .p (.v (.bool v12)), .p (.v (.bool v13))]) Z Z Z Z Z (by kernel_rfl)) ?_
  refine dN 1 Z ?_;refine rt (hL _ ?_);refine QP (st' := ⟨[(2, .c (.ptr (2, 0) 0 0))], [((2, 0), some (.box ([.p (.v (.bool v1)), .p (.v (.bool v2)), .p (.v (.bool v3)), .p (.v (.bool v4)), .p (.v (.bool v5)), .p (.v (.bool v6)), .p (.v (.bool v7)), .p (.v (.bool v8)), .p (.v (.bool v9)), .p (.v (.bool v10)), .p (.v (.bool v11)), .p (.v (.bool v12)), .p (.v (.bool v13))])))]⟩) QC.fit ?_;obtain rfl := h;exact Qf (hQ _ _ ⟨.inr Z, _, _, _, (.cons (.cella Z Z Z Z Z) .nil), (.cons (.agg (Qq (Qq (Qq (Qq (Qq (Qq (Qq (Qq (Qq (Qq (Qq (Qq (Qq .nil)))))))))))))) .nil), Z, Z⟩)
def WW (a0 : Int) (a1 : Int) (a2 : Int) (Q : Bool → Prop) : Prop :=
 Q (((bif decide (a0 ≥ a1) then decide (a0 ≤ a2) else false)))
def JC (a0 : Int) (a1 : Int) (a2 : Int) (r : Bool) : Prop := WW a0 a1 a2 fun x => r = x
theorem WX {a0 : Int} {a1 : Int} {a2 : Int} {r : Bool} (h : JC a0 a1 a2 r) : Qr Tryz.prog 78 [.c (.v (.int .u8 a0)), .c (.v (.int .u8 a1)), .c (.v (.int .u8 a2))] [.c (.p (.v (.bool r)))] [] := by
  refine Qn tb Tryz.func78 Z (by kernel_rfl) Z Z (Nat.le_of_ble_eq_true Z) Z ?_;intro E;unfold JC WW at h;refine Z5 (fun Q hQ => ?_);refine tD Z ?_;refine tk fun L hL => ?_;refine dN 4 Z ?_;refine Q2 Z Z Qe (fun hg => Q8 Z Z) ?_;refine Q2 Z Z Qe (fun hg => Q8 Z Z) ?_;refine Q2 Z Z Qe (fun hg => Qz (c := decide (a0 ≤ a2)) (Qd hg) (Qd hg) Z Z Z) ?_;refine u0 (Qm (v := .bool (decide (a0 ≤ a2))) (w := .bool false) Z Z Qe Z Qw) ?_;refine dN 1 Z ?_;refine rt (hL _ ?_);obtain rfl := h;exact Qf (hQ _ _ (Zv Z Z))
def Uk (a0 : ByteArray) (Q : Bool → Prop) : Prop :=
 ∃ (v2 : Int), ((!((bif decide (((a0.size : Int)) < 1) then true else decide (((a0.size : Int)) > 16)))) = true → bx a0 0 v2) ∧ ∃ (v3 : Bool), ((!((bif decide (((a0.size : Int)) < 1) then true else decide (((a0.size : Int)) > 16)))) = true → JC v2 97 122 v3) ∧ ((((bif (bif decide (((a0.size : Int)) < 1) then true else decide (((a0.size : Int)) > 16)) then true else !(v3))) = true → Q false) ∧ (((bif (bif decide (((a0.size : Int)) < 1) then true else decide (((a0.size : Int)) > 16)) then true else !(v3))) = false → jn (fun (p4 : Unit) => Q true) (fun (J4 : Unit → Prop) => lp (fun (X5 : Int → Prop) (s5 : Int) => (((decide (s5 < ((a0.size : Int)))) = true → ∃ v8, bx a0 s5 v8 ∧ ∃ v9, JC v8 97 122 v9 ∧ ∃ (v10 : Int), ((!(v9)) = true → bx a0 s5 v10) ∧ ∃ (v11 : Bool), ((!(v9)) = true → JC v10 48 57 v11) ∧ ∃ (v12 : Int), (((bif !(v9) then !(v11) else false)) = true → bx a0 s5 v12) ∧ ∃ (v13 : Int), (((bif (bif !(v9) then !(v11) else false) then (v12 != 45) else false)) = true → bx a0 s5 v13) ∧ ((((bif (bif (bif !(v9) then !(v11) else false) then (v12 != 45) else false) then (v13 != 46) else false)) = true → Q false) ∧ (((bif (bif (bif !(v9) then !(v11) else false) then (v12 != 45) else false) then (v13 != 46) else false)) = false → X5 ((IntKind.i64.wrap (s5 + 1)))))) ∧ ((decide (s5 < ((a0.size : Int)))) = false → J4 (())))) 0)))
def JX (a0 : ByteArray) (r : Bool) : Prop := Uk a0 fun x => r = x
theorem Ul {a0 : ByteArray} {r : Bool} (h : JX a0 r) : Qr Tryz.prog 52 [.c (.v (.string a0))] [.c (.p (.v (.bool r)))] [] := by
  refine Qn tb Tryz.func52 Z (by kernel_rfl) Z Z (Nat.le_of_ble_eq_true Z) Z ?_;intro E;unfold JX Uk at h;refine Z5 (fun Q hQ => ?_);refine tD Z ?_;refine sk fun L1 hL1 => ?_;refine tk fun L hL => ?_;refine dN 1 Z ?_;refine u0 Kc ?_;refine dN 2 Z ?_;refine Q2 Z Z Q5 (fun hg => Q8 Z Z) ?_;refine Q2 Z Z Q5 (fun hg => Kc (Qd hg) Z Z Z) ?_;refine Q2 Z Z Q5 (fun hg => Qz (c := decide (((a0.size : Int)) > 16)) (Qd hg) Z Z Z Z) ?_;refine u0 (Ql (v := .bool true) (w := .bool (decide (((a0.size : Int)) > 16))) Z Z Q5 Z Qw) ?_;refine dN 1 Z ?_;refine Q2 Z Z Q5 (fun hg => Q8 Z Z) ?_;obtain ⟨v2, hv2, h⟩ := h;refine Q2 Z Z Q5 (fun hg => Vp (hv2 hg) (Qd hg) Z Z Z Z Z) ?_;obtain ⟨v3, hv3, h⟩ := h;refine Q2 Z Z Q5 (fun hg => QN (WX (hv3 hg)) Z Z (.cons (Zn hg (.c (.p _))) (.cons (.c (.p _)) (.cons (.c (.p _)) .nil))) Z Z Z) ?_;refine Q2 Z Z Q5 (fun hg => Z4 (Qd hg) Z Z) ?_;refine u0 (Ql (v := .bool true) (w := .bool (!(v3))) Z Z Q5 Z Qw) ?_;refine rt (hL _ ?_);refine cn h (fun h => ?_) fun h => ?_
  · refine tD Z ?_;obtain rfl := h;exact Qf (hQ _ _ (Zv Z Z))
  · refine Qh (hL1 _ ?_);refine QP (st' := ⟨[(0, .c (.p (.v (.string a0))))], []⟩) QC.fit ?_;refine Z6 (fun (p4 : Unit) => (⟨[], []⟩ : St)) h (fun p4 h => ?_) (fun J4 L4 hL4 h => ?_)
    · refine tD Z ?_;obtain rfl := h;exact Qf (hQ _ _ (Zv Z Z))
    · refine tD Z ?_;refine Qt ?_;refine Zr (fun (s5 : Int) => (⟨[(0, .c (.p (.v (.string a0)))), (3, .c (.p (.v (.int .i64 s5))))], []⟩ : St)) h QC.fit (fun X5 L5 hL5 s5 h => ?_);refine sk fun L6 hL6 => ?_;refine tk fun L hL => ?_;refine dN 2 Z ?_;refine u0 Kc ?_;refine dN 1 Z ?_;refine rt (hL _ ?_);refine cn h (fun h => ?_) fun h => ?_
      · refine Qh (hL6 _ ?_);refine sk fun L7 hL7 => ?_;refine Qt ?_;refine tk fun L hL => ?_;refine dN 2 Z ?_;obtain ⟨v8, hv8, h⟩ := h;refine u0 (Vp hv8) ?_;obtain ⟨v9, hv9, h⟩ := h;refine u0 (QO (WX hv9)) ?_;refine dN 2 Z ?_;refine Q2 Z Z Qe (fun hg => Q8 Z Z) ?_;refine Q2 Z Z Qe (fun hg => Q8 Z Z) ?_;obtain ⟨v10, hv10, h⟩ := h;refine Q2 Z Z Qe (fun hg => Vp (hv10 hg) (Qd hg) (Qd hg) Z Z Z Z) ?_;obtain ⟨v11, hv11, h⟩ := h;refine Q2 Z Z Qe (fun hg => QN (WX (hv11 hg)) Z Z (.cons (Zn hg (.c (.p _))) (.cons (.c (.p _)) (.cons (.c (.p _)) .nil))) Z Z Z) ?_;refine Q2 Z Z Qe (fun hg => Z4 (Qd hg) Z Z) ?_;refine u0 (Qm (v := .bool (!(v11))) (w := .bool false) Z Z Qe Z Qw) ?_;refine dN 1 Z ?_;refine Q2 Z Z Qe (fun hg => Q8 Z Z) ?_;refine Q2 Z Z Qe (fun hg => Q8 Z Z) ?_;obtain ⟨v12, hv12, h⟩ := h;refine Q2 Z Z Qe (fun hg => Vp (hv12 hg) (Qd hg) (Qd hg) Z Z Z Z) ?_;refine Q2 Z Z Qe (fun hg => Qz (c := (v12 != 45)) (Qd hg) Z Z Z Z) ?_;refine u0 (Qm (v := .bool ((v12 != 45))) (w := .bool false) Z Z Qe Z Qw) ?_
        refine dN 1 Z ?_;refine Q2 Z Z Qe (fun hg => Q8 Z Z) ?_;refine Q2 Z Z Qe (fun hg => Q8 Z Z) ?_;obtain ⟨v13, hv13, h⟩ := h;refine Q2 Z Z Qe (fun hg => Vp (hv13 hg) (Qd hg) (Qd hg) Z Z Z Z) ?_;refine Q2 Z Z Qe (fun hg => Qz (c := (v13 != 46)) (Qd hg) Z Z Z Z) ?_;refine u0 (Qm (v := .bool ((v13 != 46))) (w := .bool false) Z Z Qe Z Qw) ?_;refine rt (hL _ ?_);refine cn h (fun h => ?_) fun h => ?_
        · refine tD Z ?_;obtain rfl := h;exact Qf (hQ _ _ (Zv Z Z))
        · refine Qh (hL7 _ ?_);refine QP (st' := ⟨[(0, .c (.p (.v (.string a0)))), (3, .c (.p (.v (.int .i64 s5))))], []⟩) QC.fit ?_;refine tE Z (hL5 _ _ h QC.fit)
      · refine QQ (hL4 _ _ h QC.fit)
def Um (a0 : Qp) (a1 : Bool) (a2 : Bool) (Q : Int → Prop) : Prop :=
 jn (fun (p1 : Unit) => jn (fun (p9 : Unit) => Q 0) (fun (J9 : Unit → Prop) => ((a2 = true → ∃ v11, Zp ((a0.f8.length : Int)) 1 64 v11 ∧ (((!(v11)) = true → Q 5) ∧ ((!(v11)) = false → lp (fun (X12 : Int → Prop) (s12 : Int) => (((decide (s12 < ((a0.f8.length : Int)))) = true → ∃ v15, ix a0.f8 s12 v15 ∧ ∃ v16, Z7 v15 v16 ∧ ((((v16 != 0)) = true → Q v16) ∧ (((v16 != 0)) = false → X12 ((IntKind.i64.wrap (s12 + 1)))))) ∧ ((decide (s12 < ((a0.f8.length : Int)))) = false → J9 (())))) 0))) ∧ (a2 = false → J9 (()))))) (fun (J1 : Unit → Prop) => ((a1 = true → ∃ v3, Zp ((a0.fa0.length : Int)) 1 16 v3 ∧ (((!(v3)) = true → Q 5) ∧ ((!(v3)) = false → lp (fun (X4 : Int → Prop) (s4 : Int) => (((decide (s4 < ((a0.fa0.length : Int)))) = true → ∃ v7, ix a0.fa0 s4 v7 ∧ ∃ v8, JX v7 v8 ∧ (((!(v8)) = true → Q 6) ∧ ((!(v8)) = false → X4 ((IntKind.i64.wrap (s4 + 1)))))) ∧ ((decide (s4 < ((a0.fa0.length : Int)))) = false → J1 (())))) 0))) ∧ (a1 = false → J1 (()))))
def Jm (a0 : Qp) (a1 : Bool) (a2 : Bool) (r : Int) : Prop := Um a0 a1 a2 fun x => r = x
theorem Bs {a0 : Qp} {a1 : Bool} {a2 : Bool} {r : Int} (h : Jm a0 a1 a2 r) : Qr Tryz.prog 53 [.agg (Zi a0), .c (.v (.bool a1)), .c (.v (.bool a2))] [.c (.p (.v (.int .i64 r)))] [] := by
  refine Qn tb Tryz.func53 Z (by kernel_rfl) Z Z (Nat.le_of_ble_eq_true Z) Z ?_;intro E;unfold Jm Um at h;refine Z5 (fun Q hQ => ?_);refine tD Z ?_;refine Z6 (fun (p1 : Unit) => (⟨[(2, .c (.p (.v (.bool a2)))), (3, .c (.ptr (3, 0) 0 0))], [((3, 0), some (.box (List.map CV.p (Zi a0))))]⟩ : St)) h (fun p1 h => ?_) (fun J1 L1 hL1 h => ?_)
  · refine Z6 (fun (p9 : Unit) => (⟨[], []⟩ : St)) h (fun p9 h => ?_) (fun J9 L9 hL9 h => ?_)
    · refine tD Z ?_;obtain rfl := h;exact Qf (hQ _ _ (Zv Z Z))
    · refine tD Z ?_;refine cn h (fun h => ?_) fun h => ?_
      · refine sk fun L10 hL10 => ?_;refine tk fun L hL => ?_;refine dN 2 Z ?_;refine u0 QA ?_;obtain ⟨v11, hv11, h⟩ := h;refine u0 (QO (Kr hv11)) ?_;refine dN 1 Z ?_;refine rt (hL _ ?_);refine cn h (fun h => ?_) fun h => ?_
        · refine tD Z ?_;obtain rfl := h;exact Qf (hQ _ _ (Zv Z Z))
        · refine Qh (hL10 _ ?_);refine tD Z ?_;refine Qt ?_;refine Zr (fun (s12 : Int) => (⟨[(3, .c (.ptr (3, 0) 0 0)), (8, .c (.p (.v (.int .i64 s12))))], [((3, 0), some (.box (List.map CV.p (Zi a0))))]⟩ : St)) h QC.fit (fun X12 L12 hL12 s12 h => ?_);refine sk fun L13 hL13 => ?_;refine tk fun L hL => ?_;refine dN 3 Z ?_;refine u0 QA ?_;refine dN 1 Z ?_;refine rt (hL _ ?_);refine cn h (fun h => ?_) fun h => ?_
          · refine Qh (hL13 _ ?_);refine sk fun L14 hL14 => ?_;refine Qt ?_;refine tk fun L hL => ?_;refine dN 3 Z ?_;obtain ⟨v15, hv15, h⟩ := h;refine u0 (QD hv15) ?_;refine dN 1 Z ?_;obtain ⟨v16, hv16, h⟩ := h;refine u0 (QO (ZG hv16)) ?_;refine dN 1 Z ?_;refine rt (hL _ ?_);refine tD Z ?_;refine cn h (fun h => ?_) fun h => ?_
            · refine tD Z ?_;obtain rfl := h;exact Qf (hQ _ _ (Zv Z Z))
            · refine Qh (hL14 _ ?_);refine tE Z (hL12 _ _ h QC.fit)
          · refine QQ (hL9 _ _ h QC.fit)
      · refine Qh (hL9 _ _ h QC.fit)
  · refine tD Z ?_;refine cn h (fun h => ?_) fun h => ?_
    · refine sk fun L2 hL2 => ?_;refine tk fun L hL => ?_;refine dN 2 Z ?_;refine u0 QA ?_;obtain ⟨v3, hv3, h⟩ := h;refine u0 (QO (Kr hv3)) ?_;refine dN 1 Z ?_;refine rt (hL _ ?_);refine cn h (fun h => ?_) fun h => ?_
      · refine tD Z ?_;obtain rfl := h;exact Qf (hQ _ _ (Zv Z Z))
      · refine Qh (hL2 _ ?_);refine tD Z ?_;refine Qt ?_;refine Zr (fun (s4 : Int) => (⟨[(2, .c (.p (.v (.bool a2)))), (3, .c (.ptr (3, 0) 0 0)), (7, .c (.p (.v (.int .i64 s4))))], [((3, 0), some (.box (List.map CV.p (Zi a0))))]⟩ : St)) h QC.fit (fun X4 L4 hL4 s4 h => ?_);refine sk fun L5 hL5 => ?_;refine tk fun L hL => ?_;refine dN 3 Z ?_;refine u0 QA ?_;refine dN 1 Z ?_;refine rt (hL _ ?_);refine cn h (fun h => ?_) fun h => ?_
        · refine Qh (hL5 _ ?_);refine sk fun L6 hL6 => ?_;refine Qt ?_;refine tk fun L hL => ?_;refine dN 3 Z ?_;obtain ⟨v7, hv7, h⟩ := h;refine u0 (QD hv7) ?_;refine dN 1 Z ?_;obtain ⟨v8, hv8, h⟩ := h;refine u0 (QO (Ul hv8)) ?_;refine dN 1 Z ?_;refine rt (hL _ ?_);refine cn h (fun h => ?_) fun h => ?_
          · refine tD Z ?_;obtain rfl := h;exact Qf (hQ _ _ (Zv Z Z))
          · refine Qh (hL6 _ ?_);refine tE Z (hL4 _ _ h QC.fit)
        · refine QQ (hL1 _ _ h QC.fit)
    · refine Qh (hL1 _ _ h QC.fit)
def VZ (a0 : Qu) (Q : Int → Prop) : Prop :=
 ∃ v2, Zw a0.fm 1 7 v2 ∧ (((!(v2)) = true → Q 8) ∧ ((!(v2)) = false → ∃ (v3 : Bool), (((bif (a0.fm == 2) then true else (a0.fm == 6))) = true → Kq a0.fa2 v3) ∧ ((((bif (bif (a0.fm == 2) then true else (a0.fm == 6)) then !(v3) else false)) = true → Q 7) ∧ (((bif (bif (a0.fm == 2) then true else (a0.fm == 6)) then !(v3) else false)) = false → ∃ (v4 : Bool), (((a0.fm == 5)) = true → Zw a0.f0 0 32 v4) ∧ ((((bif (a0.fm == 5) then !(v4) else false)) = true → Q 5) ∧ (((bif (a0.fm == 5) then !(v4) else false)) = false → ∃ (v5 : Bool), (((a0.fm == 7)) = true → Zw a0.fb8 1 1000000 v5) ∧ ∃ (v6 : Bool), ((((a0.fm == 7) && !(!(v5)))) = true → Zw a0.fb9 0 a0.fb8 v6) ∧ ((((bif (a0.fm == 7) then (bif !(v5) then true else !(v6)) else false)) = true → Q 5) ∧ (((bif (a0.fm == 7) then (bif !(v5) then true else !(v6)) else false)) = false → ((((bif (bif (bif !((bif (a0.fm == 2) then true else (a0.fm == 6))) then (!(a0.fa2.toList == ((⟨#[]⟩ : ByteArray)).toList)) else false) then true else (bif (a0.fm != 5) then (a0.f0 != 0) else false)) then true else (bif (a0.fm != 7) then (bif (a0.fb9 != 0) then true else (a0.fb8 != 0)) else false))) = true → Q 18) ∧ (((bif (bif (bif !((bif (a0.fm == 2) then true else (a0.fm == 6))) then (!(a0.fa2.toList == ((⟨#[]⟩ : ByteArray)).toList)) else false) then true else (bif (a0.fm != 5) then (a0.f0 != 0) else false)) then true else (bif (a0.fm != 7) then (bif (a0.fb9 != 0) then true else (a0.fb8 != 0)) else false))) = false → Q 0))))))))))
def K5 (a0 : Qu) (r : Int) : Prop := VZ a0 fun x => r = x
theorem Al {a0 : Qu} {r : Int} (h : K5 a0 r) : Qr Tryz.prog 55 [.agg (Wj a0)] [.c (.p (.v (.int .i64 r)))] [] := by
  refine Qn tb Tryz.func55 Z (by kernel_rfl) Z Z (Nat.le_of_ble_eq_true Z) Z ?_;intro E;unfold K5 VZ at h;refine Z5 (fun Q hQ => ?_);refine tD Z ?_;refine tk fun L hL => ?_;refine dN 4 Z ?_;refine Q2 Z Z Q5 (fun hg => Qc Z Z Z Z Z Z Z Z Z) ?_;refine Q2 Z Z Q5 (fun hg => Q4 (Qd hg) Z Z Z Z Z) ?_;refine Q2 Z Z Q5 (fun hg => Qz (c := (a0.fm == 6)) (Qd hg) Z Z Z Z) ?_;refine u0 (Ql (v := .bool true) (w := .bool ((a0.fm == 6))) Z Z Q5 Z Qw) ?_;refine dN 1 Z ?_;refine rt (hL _ ?_);refine sk fun L1 hL1 => ?_;refine Qt ?_;refine tk fun L hL => ?_;refine dN 2 Z ?_;obtain ⟨v2, hv2, h⟩ := h;refine u0 (QO (Kp hv2)) ?_;refine dN 2 Z ?_;refine rt (hL _ ?_);refine cn h (fun h => ?_) fun h => ?_
  · refine tD Z ?_;obtain rfl := h;exact Qf (hQ _ _ (Zv Z Z))
  · refine tk fun L hL => ?_;refine dN 2 Z ?_;refine Q2 Z Z Qe (fun hg => Qc Z Z Z Z Z Z Z Z Z) ?_;refine Q2 Z Z Qe (fun hg => Q4 (Qd hg) Z Z Z Z Z) ?_;obtain ⟨v3, hv3, h⟩ := h;refine Q2 Z Z Qe (fun hg => QN (Vw (hv3 hg)) Z Z (.cons (Zn hg (.c (.p _))) .nil) Z Z Z) ?_;refine Q2 Z Z Qe (fun hg => Z4 (Qd hg) Z Z) ?_;refine u0 (Qm (v := .bool (!(v3))) (w := .bool false) Z Z Qe Z Qw) ?_;refine dN 1 Z ?_;refine rt (hL _ ?_);refine cn h (fun h => ?_) fun h => ?_
    · refine tD Z ?_;obtain rfl := h;exact Qf (hQ _ _ (Zv Z Z))
    · refine tk fun L hL => ?_;refine dN 4 Z ?_;refine Q2 Z Z Qe (fun hg => Qc Z Z Z Z Z Z Z Z Z) ?_;refine Q2 Z Z Qe (fun hg => Q4 (Qd hg) Z Z Z Z Z) ?_;obtain ⟨v4, hv4, h⟩ := h;refine Q2 Z Z Qe (fun hg => QN (Kp (hv4 hg)) Z Z (.cons (Zn hg (.c (.p _))) (.cons (.c (.p _)) (.cons (.c (.p _)) .nil))) Z Z Z) ?_;refine Q2 Z Z Qe (fun hg => Z4 (Qd hg) Z Z) ?_;refine u0 (Qm (v := .bool (!(v4))) (w := .bool false) Z Z Qe Z Qw) ?_;refine dN 1 Z ?_;refine rt (hL _ ?_);refine cn h (fun h => ?_) fun h => ?_
      · refine tD Z ?_;obtain rfl := h;exact Qf (hQ _ _ (Zv Z Z))
      · refine tk fun L hL => ?_;refine dN 4 Z ?_;refine Q2 Z Z Qe (fun hg => Qc Z Z Z Z Z Z Z Z Z) ?_;refine Q2 Z Z Qe (fun hg => Q4 (Qd hg) Z Z Z Z Z) ?_;obtain ⟨v5, hv5, h⟩ := h;refine Q2 Z Z Qe (fun hg => QN (Kp (hv5 hg)) Z Z (.cons (Zn hg (.c (.p _))) (.cons (.c (.p _)) (.cons (.c (.p _)) .nil))) Z Z Z) ?_;refine Q2 Z Z Qe (fun hg => Z4 (Qd hg) Z Z) ?_;refine Q2 Z Z Qe (fun hg => Q8 (Qd hg) Z) ?_;refine Qy Z Z Zh (fun hg => Qc Z Z Z Z Z Z Z Z Z) ?_;refine Qy Z Z Zh (fun hg => Q4 (Qd hg) Z Z Z Z Z) ?_;refine Qy Z Z Zh (fun hg => Qc Z Z Z Z Z Z Z Z Z) ?_;refine Qy Z Z Zh (fun hg => Q4 (Qd hg) Z Z Z Z Z) ?_;obtain ⟨v6, hv6, h⟩ := h;refine Qy Z Z Zh (fun hg => QN (Kp (hv6 hg)) Z Z (.cons (Zn hg (.c (.p _))) (.cons (.c (.p _)) (.cons (Zn hg (.c (.p _))) .nil))) Z Z Z) ?_;refine Qy Z Z Zh (fun hg => Z4 (Qd hg) Z Z) ?_;refine Q2 Z Z Qe (fun hg => Ql (v := .bool true) (w := .bool (!(v6))) (Qd hg) Z (WR hg) Z Qw Z Z Z) ?_;refine u0 (Qm (v := .bool ((bif !(v5) then true else !(v6)))) (w := .bool false) Z Z Qe Z Qw) ?_
        refine dN 1 Z ?_;refine rt (hL _ ?_);refine QP (st' := ⟨[(1, .c (.ptr (1, 0) 0 0)), (3, .c (.p (.v (.bool ((bif (a0.fm == 2) then true else (a0.fm == 6))))))), (35, .c (.p (.v (.bool ((bif (a0.fm == 7) then (bif !(v5) then true else !(v6)) else false))))))], [((1, 0), some (.box (List.map CV.p (Wj a0))))]⟩) QC.fit ?_;refine cn h (fun h => ?_) fun h => ?_
        · refine tD Z ?_;obtain rfl := h;exact Qf (hQ _ _ (Zv Z Z))
        · refine tk fun L hL => ?_;refine dN 3 Z ?_;refine Q2 Z Z Qe (fun hg => Qc Z Z Z Z Z Z Z Z Z) ?_;refine Q2 Z Z Qe (fun hg => Q4 (Qd hg) Z Z Z Z Z) ?_;refine Q2 Z Z Qe (fun hg => Xb (c := (!(a0.fa2.toList == ((⟨#[]⟩ : ByteArray)).toList))) (Qd hg) Z Z Z Z) ?_;refine u0 (Qm (v := .bool ((!(a0.fa2.toList == ((⟨#[]⟩ : ByteArray)).toList)))) (w := .bool false) Z Z Qe Z Qw) ?_;refine dN 1 Z ?_;refine Q2 Z Z Q5 (fun hg => Qc Z Z Z Z Z Z Z Z Z) ?_;refine Q2 Z Z Q5 (fun hg => Q4 (Qd hg) Z Z Z Z Z) ?_;refine Q2 Z Z Q5 (fun hg => Qz (c := (a0.fm != 5)) (Qd hg) Z Z Z Z) ?_;refine Q2 Z Z Q5 (fun hg => Q8 (Qd hg) Z) ?_;refine Qy Z Z QH (fun hg => Qc Z Z Z Z Z Z Z Z Z) ?_;refine Qy Z Z QH (fun hg => Q4 (Qd hg) Z Z Z Z Z) ?_;refine Qy Z Z QH (fun hg => Qz (c := (a0.f0 != 0)) (Qd hg) Z Z Z Z) ?_;refine Q2 Z Z Q5 (fun hg => Qm (v := .bool ((a0.f0 != 0))) (w := .bool false) (Qd hg) Z (Jj hg) Z Qw Z Z Z) ?_;refine u0 (Ql (v := .bool true) (w := .bool ((bif (a0.fm != 5) then (a0.f0 != 0) else false))) Z Z Q5 Z Qw) ?_
          refine dN 1 Z ?_;refine Q2 Z Z Q5 (fun hg => Qc Z Z Z Z Z Z Z Z Z) ?_;refine Q2 Z Z Q5 (fun hg => Q4 (Qd hg) Z Z Z Z Z) ?_;refine Q2 Z Z Q5 (fun hg => Qz (c := (a0.fm != 7)) (Qd hg) Z Z Z Z) ?_;refine Q2 Z Z Q5 (fun hg => Q8 (Qd hg) Z) ?_;refine Qy Z Z QH (fun hg => Qc Z Z Z Z Z Z Z Z Z) ?_;refine Qy Z Z QH (fun hg => Q4 (Qd hg) Z Z Z Z Z) ?_;refine Qy Z Z QH (fun hg => Qz (c := (a0.fb9 != 0)) (Qd hg) Z Z Z Z) ?_;refine Qy Z Z QH (fun hg => Q8 (Qd hg) Z) ?_;refine Qy Z Z Zh (fun hg => Qc Z Z Z Z Z Z Z Z Z) ?_;refine Qy Z Z Zh (fun hg => Q4 (Qd hg) Z Z Z Z Z) ?_;refine Qy Z Z Zh (fun hg => Qz (c := (a0.fb8 != 0)) (Qd hg) Z Z Z Z) ?_;refine Qy Z Z QH (fun hg => Ql (v := .bool true) (w := .bool ((a0.fb8 != 0))) (Qd hg) Z (WR hg) Z Qw Z Z Z) ?_;refine Q2 Z Z Q5 (fun hg => Qm (v := .bool ((bif (a0.fb9 != 0) then true else (a0.fb8 != 0)))) (w := .bool false) (Qd hg) Z (Jj hg) Z Qw Z Z Z) ?_;refine u0 (Ql (v := .bool true) (w := .bool ((bif (a0.fm != 7) then (bif (a0.fb9 != 0) then true else (a0.fb8 != 0)) else false))) Z Z Q5 Z Qw) ?_
          refine dN 1 Z ?_;refine rt (hL _ ?_);refine cn h (fun h => ?_) fun h => ?_
          · refine tD Z ?_;obtain rfl := h;exact Qf (hQ _ _ (Zv Z Z))
          · refine Qh (hL1 _ ?_);refine QP (st' := ⟨[], []⟩) QC.fit ?_;refine tD Z ?_;obtain rfl := h;exact Qf (hQ _ _ (Zv Z Z))
def W1 (a0 : Qp) (Q : Int → Prop) : Prop :=
 ∃ v2, Zp a0.fm 1 17 v2 ∧ (((!(v2)) = true → Q 8) ∧ ((!(v2)) = false → ∃ v3, YD a0.fm v3 ∧ ∃ (v5 : Bool), (v3.fe0 = true → JX a0.fb6 v5) ∧ ∃ (v6 : Bool), (((!((bif v3.fe0 then !(v5) else false)) && v3.fe1)) = true → JX a0.fj v6) ∧ ((((bif (bif v3.fe0 then !(v5) else false) then true else (bif v3.fe1 then !(v6) else false))) = true → Q 6) ∧ (((bif (bif v3.fe0 then !(v5) else false) then true else (bif v3.fe1 then !(v6) else false))) = false → ∃ v8, Jm a0 v3.fe2 false v8 ∧ ((((v8 != 0)) = true → Q v8) ∧ (((v8 != 0)) = false → jn (fun (p9 : Unit) => ∃ v12, Jm a0 false v3.fe4 v12 ∧ ((((v12 != 0)) = true → Q v12) ∧ (((v12 != 0)) = false → ((((bif v3.fe5 then decide (((a0.fb3.length : Int)) > 64) else false)) = true → Q 11) ∧ (((bif v3.fe5 then decide (((a0.fb3.length : Int)) > 64) else false)) = false → ∃ (v15 : Bool), (v3.fe6 = true → Zp a0.fa1 1 1048576 v15) ∧ ∃ (v16 : Bool), (((v3.fe6 && !(!(v15)))) = true → Zp a0.fa9 1 1048576 v16) ∧ ((((bif v3.fe6 then (bif !(v15) then true else !(v16)) else false)) = true → Q 5) ∧ (((bif v3.fe6 then (bif !(v15) then true else !(v16)) else false)) = false → ∃ (v18 : Bool), (v3.fe7 = true → Zp a0.fa4 0 3 v18) ∧ ∃ (v19 : Bool), (((!((bif v3.fe7 then !(v18) else false)) && v3.fe8)) = true → Zp a0.fb4 0 15 v19) ∧ ∃ (v20 : Bool), (((!((bif (bif v3.fe7 then !(v18) else false) then true else (bif v3.fe8 then !(v19) else false))) && v3.fe9)) = true → Zp a0.fa5 0 3 v20) ∧ ∃ (v21 : Bool), (((!((bif (bif (bif v3.fe7 then !(v18) else false) then true else (bif v3.fe8 then !(v19) else false)) then true else (bif v3.fe9 then !(v20) else false))) && v3.fe10)) = true → Zp a0.f0 0 32 v21) ∧ ((((bif (bif (bif (bif v3.fe7 then !(v18) else false) then true else (bif v3.fe8 then !(v19) else false)) then true else (bif v3.fe9 then !(v20) else false)) then true else (bif v3.fe10 then !(v21) else false))) = true → Q 5) ∧ (((bif (bif (bif (bif v3.fe7 then !(v18) else false) then true else (bif v3.fe8 then !(v19) else false)) then true else (bif v3.fe9 then !(v20) else false)) then true else (bif v3.fe10 then !(v21) else false))) = false → jn (fun (p22 : Unit) => ((((bif v3.fe12 then decide (((a0.fb5.length : Int)) > 65536) else false)) = true → Q 11) ∧ (((bif v3.fe12 then decide (((a0.fb5.length : Int)) > 65536) else false)) = false → ((((bif (bif (bif (bif (bif (bif (bif (bif (bif (bif (bif (bif (bif !(v3.fe0) then (!(a0.fb6.toList == ((⟨#[]⟩ : ByteArray)).toList)) else false) then true else (bif !(v3.fe1) then (!(a0.fj.toList == ((⟨#[]⟩ : ByteArray)).toList)) else false)) then true else (bif !(v3.fe2) then decide (((a0.fa0.length : Int)) > 0) else false)) then true else (bif !(v3.fe3) then (!((a0.fb.fm == 0) && ((a0.fb.fg == 0) && ((a0.fb.fq == 0) && ((a0.fb.fu == 0) && true))))) else false)) then true else (bif !(v3.fe4) then decide (((a0.f8.length : Int)) > 0) else false)) then true else (bif !(v3.fe5) then decide (((a0.fb3.length : Int)) > 0) else false)) then true else (bif !(v3.fe6) then (bif (a0.fa1 != 0) then true else (a0.fa9 != 0)) else false)) then true else (bif !(v3.fe7) then (a0.fa4 != 0) else false)) then true else (bif !(v3.fe8) then (a0.fb4 != 0) else false)) then true else (bif !(v3.fe9) then (a0.fa5 != 0) else false)) then true else (bif !(v3.fe10) then (a0.f0 != 0) else false)) then true else (bif !(v3.fe11) then (!((a0.fv.fm == 0) && ((a0.fv.fa2.toList == ByteArray.empty.toList) && ((a0.fv.f0 == 0) && ((a0.fv.fb9 == 0) && ((a0.fv.fb8 == 0) && true)))))) else false)) then true else (bif !(v3.fe12) then decide (((a0.fb5.length : Int)) > 0) else false))) = true → Q 18) ∧ (((bif (bif (bif (bif (bif (bif (bif (bif (bif (bif (bif (bif (bif !(v3.fe0) then (!(a0.fb6.toList == ((⟨#[]⟩ : ByteArray)).toList)) else false) then true else (bif !(v3.fe1) then (!(a0.fj.toList == ((⟨#[]⟩ : ByteArray)).toList)) else false)) then true else (bif !(v3.fe2) then decide (((a0.fa0.length : Int)) > 0) else false)) then true else (bif !(v3.fe3) then (!((a0.fb.fm == 0) && ((a0.fb.fg == 0) && ((a0.fb.fq == 0) && ((a0.fb.fu == 0) && true))))) else false)) then true else (bif !(v3.fe4) then decide (((a0.f8.length : Int)) > 0) else false)) then true else (bif !(v3.fe5) then decide (((a0.fb3.length : Int)) > 0) else false)) then true else (bif !(v3.fe6) then (bif (a0.fa1 != 0) then true else (a0.fa9 != 0)) else false)) then true else (bif !(v3.fe7) then (a0.fa4 != 0) else false)) then true else (bif !(v3.fe8) then (a0.fb4 != 0) else false)) then true else (bif !(v3.fe9) then (a0.fa5 != 0) else false)) then true else (bif !(v3.fe10) then (a0.f0 != 0) else false)) then true else (bif !(v3.fe11) then (!((a0.fv.fm == 0) && ((a0.fv.fa2.toList == ByteArray.empty.toList) && ((a0.fv.f0 == 0) && ((a0.fv.fb9 == 0) && ((a0.fv.fb8 == 0) && true)))))) else false)) then true else (bif !(v3.fe12) then decide (((a0.fb5.length : Int)) > 0) else false))) = false → Q 0))))) (fun (J22 : Unit → Prop) => ((v3.fe11 = true → ∃ v23, K5 a0.fv v23 ∧ ((((v23 != 0)) = true → Q v23) ∧ (((v23 != 0)) = false → J22 (())))) ∧ (v3.fe11 = false → J22 (()))))))))))))) (fun (J9 : Unit → Prop) => ((v3.fe3 = true → ∃ v10, Zo a0.fb v10 ∧ ((((v10 != 0)) = true → Q v10) ∧ (((v10 != 0)) = false → J9 (())))) ∧ (v3.fe3 = false → J9 (()))))))))))
def Ju (a0 : Qp) (r : Int) : Prop := W1 a0 fun x => r = x
theorem Dt {a0 : Qp} {r : Int} (h : Ju a0 r) : Qr Tryz.prog 34 [.agg (Zi a0)] [.c (.p (.v (.int .i64 r)))] [] := by
  refine Qn tb Tryz.func34 Z (by kernel_rfl) Z Z (Nat.le_of_ble_eq_true Z) Z ?_;intro E;unfold Ju W1 at h;refine Z5 (fun Q hQ => ?_);refine tD Z ?_;refine sk fun L1 hL1 => ?_;refine tk fun L hL => ?_;refine dN 2 Z ?_;obtain ⟨v2, hv2, h⟩ := h;refine u0 (QO (Kr hv2)) ?_;refine dN 1 Z ?_;refine rt (hL _ ?_);refine cn h (fun h => ?_) fun h => ?_
  · refine tD Z ?_;obtain rfl := h;exact Qf (hQ _ _ (Zv Z Z))
  · refine Qh (hL1 _ ?_);refine tk fun L hL => ?_;refine dN 2 Z ?_;obtain ⟨v3, hv3, h⟩ := h;refine u0 (QO (GT hv3)) ?_;refine dN 2 Z ?_;refine rt (hL _ ?_);refine sk fun L4 hL4 => ?_;refine tk fun L hL => ?_;refine u0 (QT (j := 0) Z Z Z Z (by decide) Z Z Z Z Z Z) ?_;refine dN 2 Z ?_;refine Q2 Z Z Qe (fun hg => Qc Z Z Z Z Z Z Z Z Z) ?_;refine Q2 Z Z Qe (fun hg => Q4 (Qd hg) Z Z Z Z Z) ?_;obtain ⟨v5, hv5, h⟩ := h;refine Q2 Z Z Qe (fun hg => QN (Ul (hv5 hg)) Z Z (.cons (Zn hg (.c (.p _))) .nil) Z Z Z) ?_;refine Q2 Z Z Qe (fun hg => Z4 (Qd hg) Z Z) ?_;refine u0 (Qm (v := .bool (!(v5))) (w := .bool false) Z Z Qe Z Qw) ?_;refine dN 1 Z ?_;refine Q2 Z Z Q5 (fun hg => QT (j := 1) Z Z Z Z (by decide) Z Z Z Z Z Z) ?_;refine Q2 Z Z Q5 (fun hg => Q4 (Qd hg) Z Z Z Z Z) ?_;refine Q2 Z Z Q5 (fun hg => Q8 (Qd hg) Z) ?_;refine Qy Z Z QH (fun hg => Qc Z Z Z Z Z Z Z Z Z) ?_;refine Qy Z Z QH (fun hg => Q4 (Qd hg) Z Z Z Z Z) ?_;obtain ⟨v6, hv6, h⟩ := h;refine Qy Z Z QH (fun hg => QN (Ul (hv6 hg)) Z Z (.cons (Zn hg (.c (.p _))) .nil) Z Z Z) ?_
    refine Qy Z Z QH (fun hg => Z4 (Qd hg) Z Z) ?_;refine Q2 Z Z Q5 (fun hg => Qm (v := .bool (!(v6))) (w := .bool false) (Qd hg) Z (Jj hg) Z Qw Z Z Z) ?_;refine u0 (Ql (v := .bool true) (w := .bool ((bif v3.fe1 then !(v6) else false))) Z Z Q5 Z Qw) ?_;refine rt (hL _ ?_);refine cn h (fun h => ?_) fun h => ?_
    · refine tD Z ?_;obtain rfl := h;exact Qf (hQ _ _ (Zv Z Z))
    · refine Qh (hL4 _ ?_);refine QP (st' := ⟨[(1, .c (.ptr (1, 0) 0 0)), (3, .c (.ptr (3, 0) 0 0))], [((1, 0), some (.box (List.map CV.p (Zi a0)))), ((3, 0), some (.box (List.map CV.p (Y9 v3))))]⟩) QC.fit ?_;refine sk fun L7 hL7 => ?_;refine tk fun L hL => ?_;refine dN 1 Z ?_;refine u0 (QT (j := 2) Z Z Z Z (by decide) Z Z Z Z Z Z) ?_;refine dN 1 Z ?_;obtain ⟨v8, hv8, h⟩ := h;refine u0 (QO (Bs hv8)) ?_;refine dN 1 Z ?_;refine rt (hL _ ?_);refine tD Z ?_;refine cn h (fun h => ?_) fun h => ?_
      · refine tD Z ?_;obtain rfl := h;exact Qf (hQ _ _ (Zv Z Z))
      · refine Qh (hL7 _ ?_);refine Z6 (fun (p9 : Unit) => (⟨[(1, .c (.ptr (1, 0) 0 0)), (3, .c (.ptr (3, 0) 0 0))], [((1, 0), some (.box (List.map CV.p (Zi a0)))), ((3, 0), some (.box (List.map CV.p (Y9 v3))))]⟩ : St)) h (fun p9 h => ?_) (fun J9 L9 hL9 h => ?_)
        · refine sk fun L11 hL11 => ?_;refine tk fun L hL => ?_;refine dN 1 Z ?_;refine u0 (QT (j := 4) Z Z Z Z (by decide) Z Z Z Z Z Z) ?_;refine dN 1 Z ?_;obtain ⟨v12, hv12, h⟩ := h;refine u0 (QO (Bs hv12)) ?_;refine dN 1 Z ?_;refine rt (hL _ ?_);refine tD Z ?_;refine cn h (fun h => ?_) fun h => ?_
          · refine tD Z ?_;obtain rfl := h;exact Qf (hQ _ _ (Zv Z Z))
          · refine Qh (hL11 _ ?_);refine sk fun L13 hL13 => ?_;refine tk fun L hL => ?_;refine u0 (QT (j := 5) Z Z Z Z (by decide) Z Z Z Z Z Z) ?_;refine dN 2 Z ?_;refine Q2 Z Z Qe (fun hg => Qc Z Z Z Z Z Z Z Z Z) ?_;refine Q2 Z Z Qe (fun hg => Q4 (Qd hg) Z Z Z Z Z) ?_;refine Q2 Z Z Qe (fun hg => QA (Qd hg) Z Z Z) ?_;refine Q2 Z Z Qe (fun hg => Qz (c := decide (((a0.fb3.length : Int)) > 64)) (Qd hg) Z Z Z Z) ?_;refine u0 (Qm (v := .bool (decide (((a0.fb3.length : Int)) > 64))) (w := .bool false) Z Z Qe Z Qw) ?_;refine rt (hL _ ?_);refine cn h (fun h => ?_) fun h => ?_
            · refine tD Z ?_;obtain rfl := h;exact Qf (hQ _ _ (Zv Z Z))
            · refine Qh (hL13 _ ?_);refine QP (st' := ⟨[(1, .c (.ptr (1, 0) 0 0)), (3, .c (.ptr (3, 0) 0 0))], [((1, 0), some (.box (List.map CV.p (Zi a0)))), ((3, 0), some (.box (List.map CV.p (Y9 v3))))]⟩) QC.fit ?_;refine sk fun L14 hL14 => ?_;refine tk fun L hL => ?_;refine u0 (QT (j := 6) Z Z Z Z (by decide) Z Z Z Z Z Z) ?_;refine dN 2 Z ?_;refine Q2 Z Z Qe (fun hg => Qc Z Z Z Z Z Z Z Z Z) ?_;refine Q2 Z Z Qe (fun hg => Q4 (Qd hg) Z Z Z Z Z) ?_;obtain ⟨v15, hv15, h⟩ := h;refine Q2 Z Z Qe (fun hg => QN (Kr (hv15 hg)) Z Z (.cons (Zn hg (.c (.p _))) (.cons (.c (.p _)) (.cons (.c (.p _)) .nil))) Z Z Z) ?_;refine Q2 Z Z Qe (fun hg => Z4 (Qd hg) Z Z) ?_;refine Q2 Z Z Qe (fun hg => Q8 (Qd hg) Z) ?_;refine Qy Z Z Zh (fun hg => Qc Z Z Z Z Z Z Z Z Z) ?_;refine Qy Z Z Zh (fun hg => Q4 (Qd hg) Z Z Z Z Z) ?_;obtain ⟨v16, hv16, h⟩ := h;refine Qy Z Z Zh (fun hg => QN (Kr (hv16 hg)) Z Z (.cons (Zn hg (.c (.p _))) (.cons (.c (.p _)) (.cons (.c (.p _)) .nil))) Z Z Z) ?_;refine Qy Z Z Zh (fun hg => Z4 (Qd hg) Z Z) ?_
              refine Q2 Z Z Qe (fun hg => Ql (v := .bool true) (w := .bool (!(v16))) (Qd hg) Z (WR hg) Z Qw Z Z Z) ?_;refine u0 (Qm (v := .bool ((bif !(v15) then true else !(v16)))) (w := .bool false) Z Z Qe Z Qw) ?_;refine rt (hL _ ?_);refine cn h (fun h => ?_) fun h => ?_
              · refine tD Z ?_;obtain rfl := h;exact Qf (hQ _ _ (Zv Z Z))
              · refine Qh (hL14 _ ?_);refine QP (st' := ⟨[(1, .c (.ptr (1, 0) 0 0)), (3, .c (.ptr (3, 0) 0 0))], [((1, 0), some (.box (List.map CV.p (Zi a0)))), ((3, 0), some (.box (List.map CV.p (Y9 v3))))]⟩) QC.fit ?_;refine sk fun L17 hL17 => ?_;refine tk fun L hL => ?_;refine u0 (QT (j := 7) Z Z Z Z (by decide) Z Z Z Z Z Z) ?_;refine dN 2 Z ?_;refine Q2 Z Z Qe (fun hg => Qc Z Z Z Z Z Z Z Z Z) ?_;refine Q2 Z Z Qe (fun hg => Q4 (Qd hg) Z Z Z Z Z) ?_;obtain ⟨v18, hv18, h⟩ := h;refine Q2 Z Z Qe (fun hg => QN (Kr (hv18 hg)) Z Z (.cons (Zn hg (.c (.p _))) (.cons (.c (.p _)) (.cons (.c (.p _)) .nil))) Z Z Z) ?_;refine Q2 Z Z Qe (fun hg => Z4 (Qd hg) Z Z) ?_;refine u0 (Qm (v := .bool (!(v18))) (w := .bool false) Z Z Qe Z Qw) ?_;refine dN 1 Z ?_;refine Q2 Z Z Q5 (fun hg => QT (j := 8) Z Z Z Z (by decide) Z Z Z Z Z Z) ?_;refine Q2 Z Z Q5 (fun hg => Q4 (Qd hg) Z Z Z Z Z) ?_;refine Q2 Z Z Q5 (fun hg => Q8 (Qd hg) Z) ?_;refine Qy Z Z QH (fun hg => Qc Z Z Z Z Z Z Z Z Z) ?_;refine Qy Z Z QH (fun hg => Q4 (Qd hg) Z Z Z Z Z) ?_
                obtain ⟨v19, hv19, h⟩ := h;refine Qy Z Z QH (fun hg => QN (Kr (hv19 hg)) Z Z (.cons (Zn hg (.c (.p _))) (.cons (.c (.p _)) (.cons (.c (.p _)) .nil))) Z Z Z) ?_;refine Qy Z Z QH (fun hg => Z4 (Qd hg) Z Z) ?_;refine Q2 Z Z Q5 (fun hg => Qm (v := .bool (!(v19))) (w := .bool false) (Qd hg) Z (Jj hg) Z Qw Z Z Z) ?_;refine u0 (Ql (v := .bool true) (w := .bool ((bif v3.fe8 then !(v19) else false))) Z Z Q5 Z Qw) ?_;refine dN 1 Z ?_;refine Q2 Z Z Q5 (fun hg => QT (j := 9) Z Z Z Z (by decide) Z Z Z Z Z Z) ?_;refine Q2 Z Z Q5 (fun hg => Q4 (Qd hg) Z Z Z Z Z) ?_;refine Q2 Z Z Q5 (fun hg => Q8 (Qd hg) Z) ?_;refine Qy Z Z QH (fun hg => Qc Z Z Z Z Z Z Z Z Z) ?_;refine Qy Z Z QH (fun hg => Q4 (Qd hg) Z Z Z Z Z) ?_;obtain ⟨v20, hv20, h⟩ := h;refine Qy Z Z QH (fun hg => QN (Kr (hv20 hg)) Z Z (.cons (Zn hg (.c (.p _))) (.cons (.c (.p _)) (.cons (.c (.p _)) .nil))) Z Z Z) ?_;refine Qy Z Z QH (fun hg => Z4 (Qd hg) Z Z) ?_;refine Q2 Z Z Q5 (fun hg => Qm (v := .bool (!(v20))) (w := .bool false) (Qd hg) Z (Jj hg) Z Qw Z Z Z) ?_
                refine u0 (Ql (v := .bool true) (w := .bool ((bif v3.fe9 then !(v20) else false))) Z Z Q5 Z Qw) ?_;refine dN 1 Z ?_;refine Q2 Z Z Q5 (fun hg => QT (j := 10) Z Z Z Z (by decide) Z Z Z Z Z Z) ?_;refine Q2 Z Z Q5 (fun hg => Q4 (Qd hg) Z Z Z Z Z) ?_;refine Q2 Z Z Q5 (fun hg => Q8 (Qd hg) Z) ?_;refine Qy Z Z QH (fun hg => Qc Z Z Z Z Z Z Z Z Z) ?_;refine Qy Z Z QH (fun hg => Q4 (Qd hg) Z Z Z Z Z) ?_;obtain ⟨v21, hv21, h⟩ := h;refine Qy Z Z QH (fun hg => QN (Kr (hv21 hg)) Z Z (.cons (Zn hg (.c (.p _))) (.cons (.c (.p _)) (.cons (.c (.p _)) .nil))) Z Z Z) ?_;refine Qy Z Z QH (fun hg => Z4 (Qd hg) Z Z) ?_;refine Q2 Z Z Q5 (fun hg => Qm (v := .bool (!(v21))) (w := .bool false) (Qd hg) Z (Jj hg) Z Qw Z Z Z) ?_;refine u0 (Ql (v := .bool true) (w := .bool ((bif v3.fe10 then !(v21) else false))) Z Z Q5 Z Qw) ?_;refine rt (hL _ ?_);refine cn h (fun h => ?_) fun h => ?_
                · refine tD Z ?_;refine QP (st' := ⟨[(2, .c (.p (.v (.int .i64 5))))], []⟩) QC.fit ?_;obtain rfl := h;exact Qf (hQ _ _ (Zv Z Z))
                · refine Qh (hL17 _ ?_);refine QP (st' := ⟨[(1, .c (.ptr (1, 0) 0 0)), (3, .c (.ptr (3, 0) 0 0))], [((1, 0), some (.box (List.map CV.p (Zi a0)))), ((3, 0), some (.box (List.map CV.p (Y9 v3))))]⟩) QC.fit ?_;refine Z6 (fun (p22 : Unit) => (⟨[(1, .c (.ptr (1, 0) 0 0)), (3, .c (.ptr (3, 0) 0 0))], [((1, 0), some (.box (List.map CV.p (Zi a0)))), ((3, 0), some (.box (List.map CV.p (Y9 v3))))]⟩ : St)) h (fun p22 h => ?_) (fun J22 L22 hL22 h => ?_)
                  · refine sk fun L24 hL24 => ?_;refine tk fun L hL => ?_;refine u0 (QT (j := 12) Z Z Z Z (by decide) Z Z Z Z Z Z) ?_;refine dN 2 Z ?_;refine Q2 Z Z Qe (fun hg => Qc Z Z Z Z Z Z Z Z Z) ?_;refine Q2 Z Z Qe (fun hg => Q4 (Qd hg) Z Z Z Z Z) ?_;refine Q2 Z Z Qe (fun hg => QA (Qd hg) Z Z Z) ?_;refine Q2 Z Z Qe (fun hg => Qz (c := decide (((a0.fb5.length : Int)) > 65536)) (Qd hg) Z Z Z Z) ?_;refine u0 (Qm (v := .bool (decide (((a0.fb5.length : Int)) > 65536))) (w := .bool false) Z Z Qe Z Qw) ?_;refine rt (hL _ ?_);refine cn h (fun h => ?_) fun h => ?_
                    · refine tD Z ?_;obtain rfl := h;exact Qf (hQ _ _ (Zv Z Z))
                    · refine Qh (hL24 _ ?_);refine QP (st' := ⟨[(1, .c (.ptr (1, 0) 0 0)), (3, .c (.ptr (3, 0) 0 0))], [((1, 0), some (.box (List.map CV.p (Zi a0)))), ((3, 0), some (.box (List.map CV.p (Y9 v3))))]⟩) QC.fit ?_;refine sk fun L25 hL25 => ?_;refine tk fun L hL => ?_;refine u0 (QT (j := 0) Z Z Z Z (by decide) Z Z Z Z Z Z) ?_;refine dN 3 Z ?_;refine Q2 Z Z Qe (fun hg => Qc Z Z Z Z Z Z Z Z Z) ?_;refine Q2 Z Z Qe (fun hg => Q4 (Qd hg) Z Z Z Z Z) ?_;refine Q2 Z Z Qe (fun hg => Xb (c := (!(a0.fb6.toList == ((⟨#[]⟩ : ByteArray)).toList))) (Qd hg) Z Z Z Z) ?_;refine u0 (Qm (v := .bool ((!(a0.fb6.toList == ((⟨#[]⟩ : ByteArray)).toList)))) (w := .bool false) Z Z Qe Z Qw) ?_;refine dN 1 Z ?_;refine Q2 Z Z Q5 (fun hg => QT (j := 1) Z Z Z Z (by decide) Z Z Z Z Z Z) ?_;refine Q2 Z Z Q5 (fun hg => Q4 (Qd hg) Z Z Z Z Z) ?_;refine Q2 Z Z Q5 (fun hg => Z4 (Qd hg) Z Z) ?_;refine Q2 Z Z Q5 (fun hg => Q8 (Qd hg) Z) ?_;refine Qy Z Z QH (fun hg => Qc Z Z Z Z Z Z Z Z Z) ?_;refine Qy Z Z QH (fun hg => Q4 (Qd hg) Z Z Z Z Z) ?_
                      refine Qy Z Z QH (fun hg => Xb (c := (!(a0.fj.toList == ((⟨#[]⟩ : ByteArray)).toList))) (Qd hg) Z Z Z Z) ?_;refine Q2 Z Z Q5 (fun hg => Qm (v := .bool ((!(a0.fj.toList == ((⟨#[]⟩ : ByteArray)).toList)))) (w := .bool false) (Qd hg) Z (Jj hg) Z Qw Z Z Z) ?_;refine u0 (Ql (v := .bool true) (w := .bool ((bif !(v3.fe1) then (!(a0.fj.toList == ((⟨#[]⟩ : ByteArray)).toList)) else false))) Z Z Q5 Z Qw) ?_;refine dN 1 Z ?_;refine Q2 Z Z Q5 (fun hg => QT (j := 2) Z Z Z Z (by decide) Z Z Z Z Z Z) ?_;refine Q2 Z Z Q5 (fun hg => Q4 (Qd hg) Z Z Z Z Z) ?_;refine Q2 Z Z Q5 (fun hg => Z4 (Qd hg) Z Z) ?_;refine Q2 Z Z Q5 (fun hg => Q8 (Qd hg) Z) ?_;refine Qy Z Z QH (fun hg => Qc Z Z Z Z Z Z Z Z Z) ?_;refine Qy Z Z QH (fun hg => Q4 (Qd hg) Z Z Z Z Z) ?_;refine Qy Z Z QH (fun hg => QA (Qd hg) Z Z Z) ?_;refine Qy Z Z QH (fun hg => Qz (c := decide (((a0.fa0.length : Int)) > 0)) (Qd hg) Z Z Z Z) ?_;refine Q2 Z Z Q5 (fun hg => Qm (v := .bool (decide (((a0.fa0.length : Int)) > 0))) (w := .bool false) (Qd hg) Z (Jj hg) Z Qw Z Z Z) ?_
                      refine u0 (Ql (v := .bool true) (w := .bool ((bif !(v3.fe2) then decide (((a0.fa0.length : Int)) > 0) else false))) Z Z Q5 Z Qw) ?_;refine dN 1 Z ?_;refine Q2 Z Z Q5 (fun hg => QT (j := 3) Z Z Z Z (by decide) Z Z Z Z Z Z) ?_;refine Q2 Z Z Q5 (fun hg => Q4 (Qd hg) Z Z Z Z Z) ?_;refine Q2 Z Z Q5 (fun hg => Z4 (Qd hg) Z Z) ?_;refine Q2 Z Z Q5 (fun hg => Q8 (Qd hg) Z) ?_;refine Qy Z Z QH (fun hg => Qc Z Z Z Z Z Z Z Z Z) ?_;refine Qy Z Z QH (fun hg => Z2 (Qd hg) Z Z Z Z Z Z) ?_;refine Qy Z Z QH (fun hg => We Z Z Z Z Z Z Z) ?_;refine Qy Z Z QH (fun hg => Ay (us := [.int .i64 a0.fb.fm, .int .i64 a0.fb.fg, .int .i64 a0.fb.fq, .int .u64 a0.fb.fu]) (vs := [.int .i64 0, .int .i64 0, .int .i64 0, .int .u64 0]) (c := (!((a0.fb.fm == 0) && ((a0.fb.fg == 0) && ((a0.fb.fq == 0) && ((a0.fb.fu == 0) && true)))))) (Qd hg) (Qd hg) (by kernel_rfl) Z Z Z Z Z Z) ?_;refine Q2 Z Z Q5 (fun hg => Qm (v := .bool ((!((a0.fb.fm == 0) && ((a0.fb.fg == 0) && ((a0.fb.fq == 0) && ((a0.fb.fu == 0) && true))))))) (w := .bool false) (Qd hg) Z (Jj hg) Z Qw Z Z Z) ?_
                      refine u0 (Ql (v := .bool true) (w := .bool ((bif !(v3.fe3) then (!((a0.fb.fm == 0) && ((a0.fb.fg == 0) && ((a0.fb.fq == 0) && ((a0.fb.fu == 0) && true))))) else false))) Z Z Q5 Z Qw) ?_;refine dN 1 Z ?_;refine Q2 Z Z Q5 (fun hg => QT (j := 4) Z Z Z Z (by decide) Z Z Z Z Z Z) ?_;refine Q2 Z Z Q5 (fun hg => Q4 (Qd hg) Z Z Z Z Z) ?_;refine Q2 Z Z Q5 (fun hg => Z4 (Qd hg) Z Z) ?_;refine Q2 Z Z Q5 (fun hg => Q8 (Qd hg) Z) ?_;refine Qy Z Z QH (fun hg => Qc Z Z Z Z Z Z Z Z Z) ?_;refine Qy Z Z QH (fun hg => Q4 (Qd hg) Z Z Z Z Z) ?_;refine Qy Z Z QH (fun hg => QA (Qd hg) Z Z Z) ?_;refine Qy Z Z QH (fun hg => Qz (c := decide (((a0.f8.length : Int)) > 0)) (Qd hg) Z Z Z Z) ?_;refine Q2 Z Z Q5 (fun hg => Qm (v := .bool (decide (((a0.f8.length : Int)) > 0))) (w := .bool false) (Qd hg) Z (Jj hg) Z Qw Z Z Z) ?_;refine u0 (Ql (v := .bool true) (w := .bool ((bif !(v3.fe4) then decide (((a0.f8.length : Int)) > 0) else false))) Z Z Q5 Z Qw) ?_;refine dN 1 Z ?_
                      refine Q2 Z Z Q5 (fun hg => QT (j := 5) Z Z Z Z (by decide) Z Z Z Z Z Z) ?_;refine Q2 Z Z Q5 (fun hg => Q4 (Qd hg) Z Z Z Z Z) ?_;refine Q2 Z Z Q5 (fun hg => Z4 (Qd hg) Z Z) ?_;refine Q2 Z Z Q5 (fun hg => Q8 (Qd hg) Z) ?_;refine Qy Z Z QH (fun hg => Qc Z Z Z Z Z Z Z Z Z) ?_;refine Qy Z Z QH (fun hg => Q4 (Qd hg) Z Z Z Z Z) ?_;refine Qy Z Z QH (fun hg => QA (Qd hg) Z Z Z) ?_;refine Qy Z Z QH (fun hg => Qz (c := decide (((a0.fb3.length : Int)) > 0)) (Qd hg) Z Z Z Z) ?_;refine Q2 Z Z Q5 (fun hg => Qm (v := .bool (decide (((a0.fb3.length : Int)) > 0))) (w := .bool false) (Qd hg) Z (Jj hg) Z Qw Z Z Z) ?_;refine u0 (Ql (v := .bool true) (w := .bool ((bif !(v3.fe5) then decide (((a0.fb3.length : Int)) > 0) else false))) Z Z Q5 Z Qw) ?_;refine dN 1 Z ?_;refine Q2 Z Z Q5 (fun hg => QT (j := 6) Z Z Z Z (by decide) Z Z Z Z Z Z) ?_;refine Q2 Z Z Q5 (fun hg => Q4 (Qd hg) Z Z Z Z Z) ?_;refine Q2 Z Z Q5 (fun hg => Z4 (Qd hg) Z Z) ?_;refine Q2 Z Z Q5 (fun hg => Q8 (Qd hg) Z) ?_
                      refine Qy Z Z QH (fun hg => Qc Z Z Z Z Z Z Z Z Z) ?_;refine Qy Z Z QH (fun hg => Q4 (Qd hg) Z Z Z Z Z) ?_;refine Qy Z Z QH (fun hg => Qz (c := (a0.fa1 != 0)) (Qd hg) Z Z Z Z) ?_;refine Qy Z Z QH (fun hg => Q8 (Qd hg) Z) ?_;refine Qy Z Z Zh (fun hg => Qc Z Z Z Z Z Z Z Z Z) ?_;refine Qy Z Z Zh (fun hg => Q4 (Qd hg) Z Z Z Z Z) ?_;refine Qy Z Z Zh (fun hg => Qz (c := (a0.fa9 != 0)) (Qd hg) Z Z Z Z) ?_;refine Qy Z Z QH (fun hg => Ql (v := .bool true) (w := .bool ((a0.fa9 != 0))) (Qd hg) Z (WR hg) Z Qw Z Z Z) ?_;refine Q2 Z Z Q5 (fun hg => Qm (v := .bool ((bif (a0.fa1 != 0) then true else (a0.fa9 != 0)))) (w := .bool false) (Qd hg) Z (Jj hg) Z Qw Z Z Z) ?_;refine u0 (Ql (v := .bool true) (w := .bool ((bif !(v3.fe6) then (bif (a0.fa1 != 0) then true else (a0.fa9 != 0)) else false))) Z Z Q5 Z Qw) ?_;refine dN 1 Z ?_;refine Q2 Z Z Q5 (fun hg => QT (j := 7) Z Z Z Z (by decide) Z Z Z Z Z Z) ?_;refine Q2 Z Z Q5 (fun hg => Q4 (Qd hg) Z Z Z Z Z) ?_
                      refine Q2 Z Z Q5 (fun hg => Z4 (Qd hg) Z Z) ?_;refine Q2 Z Z Q5 (fun hg => Q8 (Qd hg) Z) ?_;refine Qy Z Z QH (fun hg => Qc Z Z Z Z Z Z Z Z Z) ?_;refine Qy Z Z QH (fun hg => Q4 (Qd hg) Z Z Z Z Z) ?_;refine Qy Z Z QH (fun hg => Qz (c := (a0.fa4 != 0)) (Qd hg) Z Z Z Z) ?_;refine Q2 Z Z Q5 (fun hg => Qm (v := .bool ((a0.fa4 != 0))) (w := .bool false) (Qd hg) Z (Jj hg) Z Qw Z Z Z) ?_;refine u0 (Ql (v := .bool true) (w := .bool ((bif !(v3.fe7) then (a0.fa4 != 0) else false))) Z Z Q5 Z Qw) ?_;refine dN 1 Z ?_;refine Q2 Z Z Q5 (fun hg => QT (j := 8) Z Z Z Z (by decide) Z Z Z Z Z Z) ?_;refine Q2 Z Z Q5 (fun hg => Q4 (Qd hg) Z Z Z Z Z) ?_;refine Q2 Z Z Q5 (fun hg => Z4 (Qd hg) Z Z) ?_;refine Q2 Z Z Q5 (fun hg => Q8 (Qd hg) Z) ?_;refine Qy Z Z QH (fun hg => Qc Z Z Z Z Z Z Z Z Z) ?_;refine Qy Z Z QH (fun hg => Q4 (Qd hg) Z Z Z Z Z) ?_;refine Qy Z Z QH (fun hg => Qz (c := (a0.fb4 != 0)) (Qd hg) Z Z Z Z) ?_;refine Q2 Z Z Q5 (fun hg => Qm (v := .bool ((a0.fb4 != 0))) (w := .bool false) (Qd hg) Z (Jj hg) Z Qw Z Z Z) ?_
                      refine u0 (Ql (v := .bool true) (w := .bool ((bif !(v3.fe8) then (a0.fb4 != 0) else false))) Z Z Q5 Z Qw) ?_;refine dN 1 Z ?_;refine Q2 Z Z Q5 (fun hg => QT (j := 9) Z Z Z Z (by decide) Z Z Z Z Z Z) ?_;refine Q2 Z Z Q5 (fun hg => Q4 (Qd hg) Z Z Z Z Z) ?_;refine Q2 Z Z Q5 (fun hg => Z4 (Qd hg) Z Z) ?_;refine Q2 Z Z Q5 (fun hg => Q8 (Qd hg) Z) ?_;refine Qy Z Z QH (fun hg => Qc Z Z Z Z Z Z Z Z Z) ?_;refine Qy Z Z QH (fun hg => Q4 (Qd hg) Z Z Z Z Z) ?_;refine Qy Z Z QH (fun hg => Qz (c := (a0.fa5 != 0)) (Qd hg) Z Z Z Z) ?_;refine Q2 Z Z Q5 (fun hg => Qm (v := .bool ((a0.fa5 != 0))) (w := .bool false) (Qd hg) Z (Jj hg) Z Qw Z Z Z) ?_;refine u0 (Ql (v := .bool true) (w := .bool ((bif !(v3.fe9) then (a0.fa5 != 0) else false))) Z Z Q5 Z Qw) ?_;refine dN 1 Z ?_;refine Q2 Z Z Q5 (fun hg => QT (j := 10) Z Z Z Z (by decide) Z Z Z Z Z Z) ?_;refine Q2 Z Z Q5 (fun hg => Q4 (Qd hg) Z Z Z Z Z) ?_;refine Q2 Z Z Q5 (fun hg => Z4 (Qd hg) Z Z) ?_;refine Q2 Z Z Q5 (fun hg => Q8 (Qd hg) Z) ?_
                      refine Qy Z Z QH (fun hg => Qc Z Z Z Z Z Z Z Z Z) ?_;refine Qy Z Z QH (fun hg => Q4 (Qd hg) Z Z Z Z Z) ?_;refine Qy Z Z QH (fun hg => Qz (c := (a0.f0 != 0)) (Qd hg) Z Z Z Z) ?_;refine Q2 Z Z Q5 (fun hg => Qm (v := .bool ((a0.f0 != 0))) (w := .bool false) (Qd hg) Z (Jj hg) Z Qw Z Z Z) ?_;refine u0 (Ql (v := .bool true) (w := .bool ((bif !(v3.fe10) then (a0.f0 != 0) else false))) Z Z Q5 Z Qw) ?_;refine dN 1 Z ?_;refine Q2 Z Z Q5 (fun hg => QT (j := 11) Z Z Z Z (by decide) Z Z Z Z Z Z) ?_;refine Q2 Z Z Q5 (fun hg => Q4 (Qd hg) Z Z Z Z Z) ?_;refine Q2 Z Z Q5 (fun hg => Z4 (Qd hg) Z Z) ?_;refine Q2 Z Z Q5 (fun hg => Q8 (Qd hg) Z) ?_;refine Qy Z Z QH (fun hg => Qc Z Z Z Z Z Z Z Z Z) ?_;refine Qy Z Z QH (fun hg => Z2 (Qd hg) Z Z Z Z Z Z) ?_;refine Qy Z Z QH (fun hg => We Z Z Z Z Z Z Z) ?_;refine Qy Z Z QH (fun hg => Ay (us := [.int .i64 a0.fv.fm, .string a0.fv.fa2, .int .i64 a0.fv.f0, .int .i64 a0.fv.fb9, .int .i64 a0.fv.fb8]) (vs := [.int .i64 0, .string ByteArray.empty, .int .i64 0, .int .i64 0, .int .i64 0]) (c := (!((a0.fv.fm == 0) && ((a0.fv.fa2.toList == ByteArray.empty.toList) && ((a0.fv.f0 == 0) && ((a0.fv.fb9 == 0) && ((a0.fv.fb8 == 0) && true))))))) (Qd hg) (Qd hg) (by kernel_rfl) Z Z Z Z Z Z) ?_
                      refine Q2 Z Z Q5 (fun hg => Qm (v := .bool ((!((a0.fv.fm == 0) && ((a0.fv.fa2.toList == ByteArray.empty.toList) && ((a0.fv.f0 == 0) && ((a0.fv.fb9 == 0) && ((a0.fv.fb8 == 0) && true)))))))) (w := .bool false) (Qd hg) Z (Jj hg) Z Qw Z Z Z) ?_;refine u0 (Ql (v := .bool true) (w := .bool ((bif !(v3.fe11) then (!((a0.fv.fm == 0) && ((a0.fv.fa2.toList == ByteArray.empty.toList) && ((a0.fv.f0 == 0) && ((a0.fv.fb9 == 0) && ((a0.fv.fb8 == 0) && true)))))) else false))) Z Z Q5 Z Qw) ?_;refine dN 1 Z ?_;refine Q2 Z Z Q5 (fun hg => QT (j := 12) Z Z Z Z (by decide) Z Z Z Z Z Z) ?_;refine Q2 Z Z Q5 (fun hg => Q4 (Qd hg) Z Z Z Z Z) ?_;refine Q2 Z Z Q5 (fun hg => Z4 (Qd hg) Z Z) ?_;refine Q2 Z Z Q5 (fun hg => Q8 (Qd hg) Z) ?_;refine Qy Z Z QH (fun hg => Qc Z Z Z Z Z Z Z Z Z) ?_;refine Qy Z Z QH (fun hg => Q4 (Qd hg) Z Z Z Z Z) ?_;refine Qy Z Z QH (fun hg => QA (Qd hg) Z Z Z) ?_;refine Qy Z Z QH (fun hg => Qz (c := decide (((a0.fb5.length : Int)) > 0)) (Qd hg) Z Z Z Z) ?_
                      refine Q2 Z Z Q5 (fun hg => Qm (v := .bool (decide (((a0.fb5.length : Int)) > 0))) (w := .bool false) (Qd hg) Z (Jj hg) Z Qw Z Z Z) ?_;refine u0 (Ql (v := .bool true) (w := .bool ((bif !(v3.fe12) then decide (((a0.fb5.length : Int)) > 0) else false))) Z Z Q5 Z Qw) ?_;refine rt (hL _ ?_);refine QP (st' := ⟨[(269, .c (.p (.v (.bool ((bif (bif (bif (bif (bif (bif (bif (bif (bif (bif (bif (bif (bif !(v3.fe0) then (!(a0.fb6.toList == ((⟨#[]⟩ : ByteArray)).toList)) else false) then true else (bif !(v3.fe1) then (!(a0.fj.toList == ((⟨#[]⟩ : ByteArray)).toList)) else false)) then true else (bif !(v3.fe2) then decide (((a0.fa0.length : Int)) > 0) else false)) then true else (bif !(v3.fe3) then (!((a0.fb.fm == 0) && ((a0.fb.fg == 0) && ((a0.fb.fq == 0) && ((a0.fb.fu == 0) && true))))) else false)) then true else (bif !(v3.fe4) then decide (((a0.f8.length : Int)) > 0) else false)) then true else (bif !(v3.fe5) then decide (((a0.fb3.length : Int)) > 0) else false)) then true else (bif !(v3.fe6) then (bif (a0.fa1 != 0) then true else (a0.fa9 != 0)) else false)) then true else (bif !(v3.fe7) then (a0.fa4 != 0) else false)) then true else (bif !(v3.fe8) then (a0.fb4 != 0) else false)) then true else (bif !(v3.fe9) then (a0.fa5 != 0) else false)) then true else (bif !(v3.fe10) then (a0.f0 != 0) else false)) then true else (bif !(v3.fe11) then (!((a0.fv.fm == 0) && ((a0.fv.fa2.toList == ByteArray.empty.toList) && ((a0.fv.f0 == 0) && ((a0.fv.fb9 == 0) && ((a0.fv.fb8 == 0) && true)))))) else false)) then true else (bif !(v3.fe12) then decide (((a0.fb5.length : Int)) > 0) else false)))))))], []⟩) QC.fit ?_
                      refine cn h (fun h => ?_) fun h => ?_
                      · refine tD Z ?_;obtain rfl := h;exact Qf (hQ _ _ (Zv Z Z))
                      · refine Qh (hL25 _ ?_);refine tD Z ?_;obtain rfl := h;exact Qf (hQ _ _ (Zv Z Z))
                  · refine tk fun L hL => ?_;refine u0 (QT (j := 11) Z Z Z Z (by decide) Z Z Z Z Z Z) ?_;refine dN 1 Z ?_;refine rt (hL _ ?_);refine cn h (fun h => ?_) fun h => ?_
                    · refine tk fun L hL => ?_;refine dN 2 Z ?_;obtain ⟨v23, hv23, h⟩ := h;refine u0 (QO (Al hv23)) ?_;refine dN 1 Z ?_;refine rt (hL _ ?_);refine tD Z ?_;refine cn h (fun h => ?_) fun h => ?_
                      · refine tD Z ?_;obtain rfl := h;exact Qf (hQ _ _ (Zv Z Z))
                      · refine Qh (hL22 _ _ h QC.fit)
                    · refine Qh (hL22 _ _ h QC.fit)
        · refine tk fun L hL => ?_;refine u0 (QT (j := 3) Z Z Z Z (by decide) Z Z Z Z Z Z) ?_;refine dN 1 Z ?_;refine rt (hL _ ?_);refine cn h (fun h => ?_) fun h => ?_
          · refine tk fun L hL => ?_;refine dN 2 Z ?_;obtain ⟨v10, hv10, h⟩ := h;refine u0 (QO (Vv hv10)) ?_;refine dN 1 Z ?_;refine rt (hL _ ?_);refine tD Z ?_;refine cn h (fun h => ?_) fun h => ?_
            · refine tD Z ?_;obtain rfl := h;exact Qf (hQ _ _ (Zv Z Z))
            · refine Qh (hL9 _ _ h QC.fit)
          · refine Qh (hL9 _ _ h QC.fit)
def KV (a0 : (List Q3)) (a1 : Int) (a2 : Qp) (a3 : Int) (Q : ((List Q3) × Int) → Prop) : Prop :=
 ((((bif decide (a1 < 0) then true else decide (a1 ≥ ((a0.length : Int))))) = true → Q (([] : (List Q3)), 5)) ∧ (((bif decide (a1 < 0) then true else decide (a1 ≥ ((a0.length : Int))))) = false → ∃ v3, Ju a2 v3 ∧ ((((v3 != 0)) = true → Q (([] : (List Q3)), v3)) ∧ (((v3 != 0)) = false → ∃ v5, ix a0 a1 v5 ∧ ((v5.fb2 = true → Q (([] : (List Q3)), 12)) ∧ (v5.fb2 = false → (a0.length * 1088 ≤ 140737488355328) ∧ ∃ v7, ix a0 a1 v7 ∧ Q ((List.set (List.set (List.set (List.set a0 (Int.toNat a1) ((Q3.mk true v7.fOp v7.fk v7.fb0 v7.f3 v7.f9))) (Int.toNat a1) ((Q3.mk true a2 v7.fk v7.fb0 v7.f3 v7.f9))) (Int.toNat a1) ((Q3.mk true a2 (QB.mk 0 0 false (([] : (List Int))) 0 (Qa.mk (Q6.mk 0 0 0 0) (Qo.mk 0 0 false) (Q9.mk 0 0 0 (([] : (List Int))) false) (Qj.mk 0 0 (([] : (List Int)))) (Qs.mk 0 0 (([] : (List Q1))) false) (Qb.mk 0 0 0 (([] : (List Q1))) false) (Qk.mk 0 0 0 (([] : (List (List ByteArray)))) false)) (Qa.mk (Q6.mk 0 0 0 0) (Qo.mk 0 0 false) (Q9.mk 0 0 0 (([] : (List Int))) false) (Qj.mk 0 0 (([] : (List Int)))) (Qs.mk 0 0 (([] : (List Q1))) false) (Qb.mk 0 0 0 (([] : (List Q1))) false) (Qk.mk 0 0 0 (([] : (List (List ByteArray)))) false)) 0 0 0 0 (Z8.mk 0 0) (([] : (List Int))) false) v7.fb0 v7.f3 v7.f9))) (Int.toNat a1) ((Q3.mk true a2 (QB.mk 0 0 false (([] : (List Int))) 0 (Qa.mk (Q6.mk 0 0 0 0) (Qo.mk 0 0 false) (Q9.mk 0 0 0 (([] : (List Int))) false) (Qj.mk 0 0 (([] : (List Int)))) (Qs.mk 0 0 (([] : (List Q1))) false) (Qb.mk 0 0 0 (([] : (List Q1))) false) (Qk.mk 0 0 0 (([] : (List (List ByteArray)))) false)) (Qa.mk (Q6.mk 0 0 0 0) (Qo.mk 0 0 false) (Q9.mk 0 0 0 (([] : (List Int))) false) (Qj.mk 0 0 (([] : (List Int)))) (Qs.mk 0 0 (([] : (List Q1))) false) (Qb.mk 0 0 0 (([] : (List Q1))) false) (Qk.mk 0 0 0 (([] : (List (List ByteArray)))) false)) 0 0 0 0 (Z8.mk 0 0) (([] : (List Int))) false) a3 v7.f3 v7.f9))), 0)))))))
def KW (a0 : (List Q3)) (a1 : Int) (a2 : Qp) (a3 : Int) (r : (List Q3) × Int) : Prop := KV a0 a1 a2 a3 fun x => r = x
def Vy (a0 : (List Q3)) (a1 : Int) (Q : ((List Q3) × Int) → Prop) : Prop :=
 ((((bif decide (a1 < 0) then true else decide (a1 ≥ ((a0.length : Int))))) = true → Q (([] : (List Q3)), 5)) ∧ (((bif decide (a1 < 0) then true else decide (a1 ≥ ((a0.length : Int))))) = false → ∃ v3, ix a0 a1 v3 ∧ (((!(v3.fb2)) = true → Q (([] : (List Q3)), 13)) ∧ ((!(v3.fb2)) = false → (a0.length * 1088 ≤ 140737488355328) ∧ ∃ v5, ix a0 a1 v5 ∧ Q ((List.set (List.set (List.set (List.set a0 (Int.toNat a1) ((Q3.mk false v5.fOp v5.fk v5.fb0 v5.f3 v5.f9))) (Int.toNat a1) ((Q3.mk false (Qp.mk 0 ByteArray.empty ByteArray.empty (([] : (List ByteArray))) (Q6.mk 0 0 0 0) (([] : (List Qi))) (([] : (List Int))) 0 0 0 0 0 0 (Qu.mk 0 ByteArray.empty 0 0 0) (([] : (List Int)))) v5.fk v5.fb0 v5.f3 v5.f9))) (Int.toNat a1) ((Q3.mk false (Qp.mk 0 ByteArray.empty ByteArray.empty (([] : (List ByteArray))) (Q6.mk 0 0 0 0) (([] : (List Qi))) (([] : (List Int))) 0 0 0 0 0 0 (Qu.mk 0 ByteArray.empty 0 0 0) (([] : (List Int)))) (QB.mk 0 0 false (([] : (List Int))) 0 (Qa.mk (Q6.mk 0 0 0 0) (Qo.mk 0 0 false) (Q9.mk 0 0 0 (([] : (List Int))) false) (Qj.mk 0 0 (([] : (List Int)))) (Qs.mk 0 0 (([] : (List Q1))) false) (Qb.mk 0 0 0 (([] : (List Q1))) false) (Qk.mk 0 0 0 (([] : (List (List ByteArray)))) false)) (Qa.mk (Q6.mk 0 0 0 0) (Qo.mk 0 0 false) (Q9.mk 0 0 0 (([] : (List Int))) false) (Qj.mk 0 0 (([] : (List Int)))) (Qs.mk 0 0 (([] : (List Q1))) false) (Qb.mk 0 0 0 (([] : (List Q1))) false) (Qk.mk 0 0 0 (([] : (List (List ByteArray)))) false)) 0 0 0 0 (Z8.mk 0 0) (([] : (List Int))) false) v5.fb0 v5.f3 v5.f9))) (Int.toNat a1) ((Q3.mk false (Qp.mk 0 ByteArray.empty ByteArray.empty (([] : (List ByteArray))) (Q6.mk 0 0 0 0) (([] : (List Qi))) (([] : (List Int))) 0 0 0 0 0 0 (Qu.mk 0 ByteArray.empty 0 0 0) (([] : (List Int)))) (QB.mk 0 0 false (([] : (List Int))) 0 (Qa.mk (Q6.mk 0 0 0 0) (Qo.mk 0 0 false) (Q9.mk 0 0 0 (([] : (List Int))) false) (Qj.mk 0 0 (([] : (List Int)))) (Qs.mk 0 0 (([] : (List Q1))) false) (Qb.mk 0 0 0 (([] : (List Q1))) false) (Qk.mk 0 0 0 (([] : (List (List ByteArray)))) false)) (Qa.mk (Q6.mk 0 0 0 0) (Qo.mk 0 0 false) (Q9.mk 0 0 0 (([] : (List Int))) false) (Qj.mk 0 0 (([] : (List Int)))) (Qs.mk 0 0 (([] : (List Q1))) false) (Qb.mk 0 0 0 (([] : (List Q1))) false) (Qk.mk 0 0 0 (([] : (List (List ByteArray)))) false)) 0 0 0 0 (Z8.mk 0 0) (([] : (List Int))) false) 0 v5.f3 v5.f9))), 0)))))
def Vz (a0 : (List Q3)) (a1 : Int) (r : (List Q3) × Int) : Prop := Vy a0 a1 fun x => r = x
set_option maxRecDepth 100000
set_option maxHeartbeats 4000000
def Un (a0 : Int) (Q : Bool → Prop) : Prop :=
 Q (((bif decide (a0 ≥ 97) then decide (a0 ≤ 122) else false)))
def VU (a0 : Int) (r : Bool) : Prop := Un a0 fun x => r = x
theorem Bt {a0 : Int} {r : Bool} (h : VU a0 r) : Qr Tryz.prog 133 [.c (.v (.int .u8 a0))] [.c (.p (.v (.bool r)))] [] := by
  refine Qn tb Tryz.func133 Z (by kernel_rfl) Z Z (Nat.le_of_ble_eq_true Z) Z ?_;intro E;unfold VU Un at h;refine Z5 (fun Q hQ => ?_);refine tD Z ?_;refine tk fun L hL => ?_;refine dN 3 Z ?_;refine Q2 Z Z Qe (fun hg => Q8 Z Z) ?_;refine Q2 Z Z Qe (fun hg => Qz (c := decide (a0 ≤ 122)) (Qd hg) Z Z Z Z) ?_;refine u0 (Qm (v := .bool (decide (a0 ≤ 122))) (w := .bool false) Z Z Qe Z Qw) ?_;refine dN 1 Z ?_;refine rt (hL _ ?_);obtain rfl := h;exact Qf (hQ _ _ (Zv Z Z))
def Uo (a0 : Int) (Q : Bool → Prop) : Prop :=
 Q (((bif decide (a0 ≥ 48) then decide (a0 ≤ 57) else false)))
def Y0 (a0 : Int) (r : Bool) : Prop := Uo a0 fun x => r = x
theorem FJ {a0 : Int} {r : Bool} (h : Y0 a0 r) : Qr Tryz.prog 134 [.c (.v (.int .u8 a0))] [.c (.p (.v (.bool r)))] [] := by
  refine Qn tb Tryz.func134 Z (by kernel_rfl) Z Z (Nat.le_of_ble_eq_true Z) Z ?_;intro E;unfold Y0 Uo at h;refine Z5 (fun Q hQ => ?_);refine tD Z ?_;refine tk fun L hL => ?_;refine dN 3 Z ?_;refine Q2 Z Z Qe (fun hg => Q8 Z Z) ?_;refine Q2 Z Z Qe (fun hg => Qz (c := decide (a0 ≤ 57)) (Qd hg) Z Z Z Z) ?_;refine u0 (Qm (v := .bool (decide (a0 ≤ 57))) (w := .bool false) Z Z Qe Z Qw) ?_;refine dN 1 Z ?_;refine rt (hL _ ?_);obtain rfl := h;exact Qf (hQ _ _ (Zv Z Z))
def WY (a0 : ByteArray) (Q : Bool → Prop) : Prop :=
 ∃ (v2 : Int), ((!((bif decide (((a0.size : Int)) < 1) then true else decide (((a0.size : Int)) > 16)))) = true → bx a0 0 v2) ∧ ∃ (v3 : Bool), ((!((bif decide (((a0.size : Int)) < 1) then true else decide (((a0.size : Int)) > 16)))) = true → VU v2 v3) ∧ ((((bif (bif decide (((a0.size : Int)) < 1) then true else decide (((a0.size : Int)) > 16)) then true else !(v3))) = true → Q false) ∧ (((bif (bif decide (((a0.size : Int)) < 1) then true else decide (((a0.size : Int)) > 16)) then true else !(v3))) = false → jn (fun (p4 : Unit) => Q true) (fun (J4 : Unit → Prop) => lp (fun (X5 : Int → Prop) (s5 : Int) => (((decide (s5 < ((a0.size : Int)))) = true → ∃ v8, bx a0 s5 v8 ∧ ∃ v9, VU v8 v9 ∧ ∃ (v10 : Bool), ((!(v9)) = true → Y0 v8 v10) ∧ ((((bif (bif (bif !(v9) then !(v10) else false) then (v8 != 45) else false) then (v8 != 46) else false)) = true → Q false) ∧ (((bif (bif (bif !(v9) then !(v10) else false) then (v8 != 45) else false) then (v8 != 46) else false)) = false → X5 ((IntKind.i64.wrap (s5 + 1)))))) ∧ ((decide (s5 < ((a0.size : Int)))) = false → J4 (())))) 0)))
def Xr (a0 : ByteArray) (r : Bool) : Prop := WY a0 fun x => r = x
theorem F2 {a0 : ByteArray} {r : Bool} (h : Xr a0 r) : Qr Tryz.prog 110 [.c (.v (.string a0))] [.c (.p (.v (.bool r)))] [] := by
  refine Qn tb Tryz.func110 Z (by kernel_rfl) Z Z (Nat.le_of_ble_eq_true Z) Z ?_;intro E;unfold Xr WY at h;refine Z5 (fun Q hQ => ?_);refine tD Z ?_;refine sk fun L1 hL1 => ?_;refine tk fun L hL => ?_;refine dN 1 Z ?_;refine u0 Kc ?_;refine dN 2 Z ?_;refine Q2 Z Z Q5 (fun hg => Q8 Z Z) ?_;refine Q2 Z Z Q5 (fun hg => Kc (Qd hg) Z Z Z) ?_;refine Q2 Z Z Q5 (fun hg => Qz (c := decide (((a0.size : Int)) > 16)) (Qd hg) Z Z Z Z) ?_;refine u0 (Ql (v := .bool true) (w := .bool (decide (((a0.size : Int)) > 16))) Z Z Q5 Z Qw) ?_;refine dN 1 Z ?_;refine Q2 Z Z Q5 (fun hg => Q8 Z Z) ?_;obtain ⟨v2, hv2, h⟩ := h;refine Q2 Z Z Q5 (fun hg => Vp (hv2 hg) (Qd hg) Z Z Z Z Z) ?_;obtain ⟨v3, hv3, h⟩ := h;refine Q2 Z Z Q5 (fun hg => QN (Bt (hv3 hg)) Z Z (.cons (Zn hg (.c (.p _))) .nil) Z Z Z) ?_;refine Q2 Z Z Q5 (fun hg => Z4 (Qd hg) Z Z) ?_;refine u0 (Ql (v := .bool true) (w := .bool (!(v3))) Z Z Q5 Z Qw) ?_;refine rt (hL _ ?_);refine cn h (fun h => ?_) fun h => ?_
  · refine tD Z ?_;obtain rfl := h;exact Qf (hQ _ _ (Zv Z Z))
  · refine Qh (hL1 _ ?_);refine QP (st' := ⟨[(0, .c (.p (.v (.string a0))))], []⟩) QC.fit ?_;refine Z6 (fun (p4 : Unit) => (⟨[], []⟩ : St)) h (fun p4 h => ?_) (fun J4 L4 hL4 h => ?_)
    · refine tD Z ?_;obtain rfl := h;exact Qf (hQ _ _ (Zv Z Z))
    · refine tk fun L hL => ?_;refine dN 1 Z ?_;refine u0 Kc ?_;refine dN 1 Z ?_;refine rt (hL _ ?_);refine Qt ?_;refine Zr (fun (s5 : Int) => (⟨[(0, .c (.p (.v (.string a0)))), (20, .c (.p (.v (.int .i64 ((a0.size : Int)))))), (21, .c (.p (.v (.int .i64 s5))))], []⟩ : St)) h QC.fit (fun X5 L5 hL5 s5 h => ?_);refine tD Z ?_;refine sk fun L6 hL6 => ?_;refine cn h (fun h => ?_) fun h => ?_
      · refine Qh (hL6 _ ?_);refine sk fun L7 hL7 => ?_;refine Qt ?_;refine tD Z ?_;refine tk fun L hL => ?_;refine dN 2 Z ?_;obtain ⟨v8, hv8, h⟩ := h;refine u0 (Vp hv8) ?_;refine dN 1 Z ?_;refine rt (hL _ ?_);refine tk fun L hL => ?_;refine dN 1 Z ?_;obtain ⟨v9, hv9, h⟩ := h;refine u0 (QO (Bt hv9)) ?_;refine dN 2 Z ?_;refine Q2 Z Z Qe (fun hg => Q8 Z Z) ?_;obtain ⟨v10, hv10, h⟩ := h;refine Q2 Z Z Qe (fun hg => QN (FJ (hv10 hg)) Z Z (.cons (Zn hg (.c (.p _))) .nil) Z Z Z) ?_;refine Q2 Z Z Qe (fun hg => Z4 (Qd hg) Z Z) ?_;refine u0 (Qm (v := .bool (!(v10))) (w := .bool false) Z Z Qe Z Qw) ?_;refine dN 1 Z ?_;refine Q2 Z Z Qe (fun hg => Q8 Z Z) ?_;refine Q2 Z Z Qe (fun hg => Qz (c := (v8 != 45)) (Qd hg) Z Z Z Z) ?_;refine u0 (Qm (v := .bool ((v8 != 45))) (w := .bool false) Z Z Qe Z Qw) ?_;refine dN 1 Z ?_;refine Q2 Z Z Qe (fun hg => Q8 Z Z) ?_;refine Q2 Z Z Qe (fun hg => Qz (c := (v8 != 46)) (Qd hg) Z Z Z Z) ?_;refine u0 (Qm (v := .bool ((v8 != 46))) (w := .bool false) Z Z Qe Z Qw) ?_;refine rt (hL _ ?_)
        refine cn h (fun h => ?_) fun h => ?_
        · refine tD Z ?_;obtain rfl := h;exact Qf (hQ _ _ (Zv Z Z))
        · refine Qh (hL7 _ ?_);refine QP (st' := ⟨[(0, .c (.p (.v (.string a0)))), (20, .c (.p (.v (.int .i64 ((a0.size : Int)))))), (21, .c (.p (.v (.int .i64 s5))))], []⟩) QC.fit ?_;refine tE Z (hL5 _ _ h QC.fit)
      · refine QQ (hL4 _ _ h QC.fit)
def UD (a0 : ByteArray) (Q : Int → Prop) : Prop :=
 ∃ v2, Xr a0 v2 ∧ (((!(v2)) = true → Q 6) ∧ ((!(v2)) = false → Q 0))
def Jv (a0 : ByteArray) (r : Int) : Prop := UD a0 fun x => r = x
theorem W2 {a0 : ByteArray} {r : Int} (h : Jv a0 r) : Qr Tryz.prog 68 [.c (.v (.string a0))] [.c (.p (.v (.int .i64 r)))] [] := by
  refine Qn tb Tryz.func68 Z (by kernel_rfl) Z Z (Nat.le_of_ble_eq_true Z) Z ?_;intro E;unfold Jv UD at h;refine Z5 (fun Q hQ => ?_);refine tD Z ?_;refine sk fun L1 hL1 => ?_;refine tk fun L hL => ?_;refine dN 1 Z ?_;obtain ⟨v2, hv2, h⟩ := h;refine u0 (QO (F2 hv2)) ?_;refine dN 1 Z ?_;refine rt (hL _ ?_);refine cn h (fun h => ?_) fun h => ?_
  · refine tD Z ?_;obtain rfl := h;exact Qf (hQ _ _ (Zv Z Z))
  · refine Qh (hL1 _ ?_);refine tD Z ?_;obtain rfl := h;exact Qf (hQ _ _ (Zv Z Z))
def XN (a0 : Int) (a1 : Int) (a2 : Int) (Q : Int → Prop) : Prop :=
 ((((bif decide (a0 < a1) then true else decide (a0 > a2))) = true → Q 5) ∧ (((bif decide (a0 < a1) then true else decide (a0 > a2))) = false → Q 0))
def Za (a0 : Int) (a1 : Int) (a2 : Int) (r : Int) : Prop := XN a0 a1 a2 fun x => r = x
theorem ZH {a0 : Int} {a1 : Int} {a2 : Int} {r : Int} (h : Za a0 a1 a2 r) : Qr Tryz.prog 73 [.c (.v (.int .i64 a0)), .c (.v (.int .i64 a1)), .c (.v (.int .i64 a2))] [.c (.p (.v (.int .i64 r)))] [] := by
  refine Qn tb Tryz.func73 Z (by kernel_rfl) Z Z (Nat.le_of_ble_eq_true Z) Z ?_;intro E;unfold Za XN at h;refine Z5 (fun Q hQ => ?_);refine tD Z ?_;refine sk fun L1 hL1 => ?_;refine tk fun L hL => ?_;refine dN 4 Z ?_;refine Q2 Z Z Q5 (fun hg => Q8 Z Z) ?_;refine Q2 Z Z Q5 (fun hg => Q8 Z Z) ?_;refine Q2 Z Z Q5 (fun hg => Qz (c := decide (a0 > a2)) (Qd hg) (Qd hg) Z Z Z) ?_;refine u0 (Ql (v := .bool true) (w := .bool (decide (a0 > a2))) Z Z Q5 Z Qw) ?_;refine rt (hL _ ?_);refine cn h (fun h => ?_) fun h => ?_
  · refine tD Z ?_;obtain rfl := h;exact Qf (hQ _ _ (Zv Z Z))
  · refine Qh (hL1 _ ?_);refine QP (st' := ⟨[], []⟩) QC.fit ?_;refine tD Z ?_;obtain rfl := h;exact Qf (hQ _ _ (Zv Z Z))
def W3 (a0 : (List ByteArray)) (Q : Int → Prop) : Prop :=
 ∃ v2, Za ((a0.length : Int)) 1 16 v2 ∧ ((((v2 != 0)) = true → Q v2) ∧ (((v2 != 0)) = false → jn (fun (p3 : Unit) => Q 0) (fun (J3 : Unit → Prop) => lp (fun (X4 : Int → Prop) (s4 : Int) => (((decide (s4 < ((a0.length : Int)))) = true → ∃ v7, ix a0 s4 v7 ∧ ∃ v8, Jv v7 v8 ∧ ((((v8 != 0)) = true → Q v8) ∧ (((v8 != 0)) = false → X4 ((IntKind.i64.wrap (s4 + 1)))))) ∧ ((decide (s4 < ((a0.length : Int)))) = false → J3 (())))) 0)))
def Vd (a0 : (List ByteArray)) (r : Int) : Prop := W3 a0 fun x => r = x
theorem Du {a0 : (List ByteArray)} {r : Int} (h : Vd a0 r) : Qr Tryz.prog 69 [.c (.l 1 (List.map eS a0))] [.c (.p (.v (.int .i64 r)))] [] := by
  refine Qn tb Tryz.func69 Z (by kernel_rfl) Z Z (Nat.le_of_ble_eq_true Z) Z ?_;intro E;unfold Vd W3 at h;refine Z5 (fun Q hQ => ?_);refine tD Z ?_;refine sk fun L1 hL1 => ?_;refine tk fun L hL => ?_;refine dN 1 Z ?_;refine u0 QA ?_;obtain ⟨v2, hv2, h⟩ := h;refine u0 (QO (ZH hv2)) ?_;refine dN 1 Z ?_;refine rt (hL _ ?_);refine tD Z ?_;refine cn h (fun h => ?_) fun h => ?_
  · refine tD Z ?_;obtain rfl := h;exact Qf (hQ _ _ (Zv Z Z))
  · refine Qh (hL1 _ ?_);refine Z6 (fun (p3 : Unit) => (⟨[], []⟩ : St)) h (fun p3 h => ?_) (fun J3 L3 hL3 h => ?_)
    · refine tD Z ?_;obtain rfl := h;exact Qf (hQ _ _ (Zv Z Z))
    · refine tk fun L hL => ?_;refine dN 1 Z ?_;refine u0 QA ?_;refine dN 1 Z ?_;refine rt (hL _ ?_);refine Qt ?_;refine Zr (fun (s4 : Int) => (⟨[(13, .c (.p (.l 1 (List.map eS a0)))), (14, .c (.p (.v (.int .i64 ((a0.length : Int)))))), (15, .c (.p (.v (.int .i64 s4))))], []⟩ : St)) h QC.fit (fun X4 L4 hL4 s4 h => ?_);refine tD Z ?_;refine sk fun L5 hL5 => ?_;refine cn h (fun h => ?_) fun h => ?_
      · refine Qh (hL5 _ ?_);refine sk fun L6 hL6 => ?_;refine Qt ?_;refine tk fun L hL => ?_;obtain ⟨v7, hv7, h⟩ := h;refine u0 (QD hv7) ?_;refine dN 2 Z ?_;refine rt (hL _ ?_);refine tk fun L hL => ?_;refine dN 1 Z ?_;obtain ⟨v8, hv8, h⟩ := h;refine u0 (QO (W2 hv8)) ?_;refine dN 1 Z ?_;refine rt (hL _ ?_);refine tD Z ?_;refine cn h (fun h => ?_) fun h => ?_
        · refine tD Z ?_;obtain rfl := h;exact Qf (hQ _ _ (Zv Z Z))
        · refine Qh (hL6 _ ?_);refine tE Z (hL4 _ _ h QC.fit)
      · refine QQ (hL3 _ _ h QC.fit)
def Wx (a0 : Int) (a1 : Int) (a2 : Int) (Q : Bool → Prop) : Prop :=
 Q (((bif decide (a0 ≥ a1) then decide (a0 ≤ a2) else false)))
def K9 (a0 : Int) (a1 : Int) (a2 : Int) (r : Bool) : Prop := Wx a0 a1 a2 fun x => r = x
theorem VI {a0 : Int} {a1 : Int} {a2 : Int} {r : Bool} (h : K9 a0 a1 a2 r) : Qr Tryz.prog 111 [.c (.v (.int .i64 a0)), .c (.v (.int .i64 a1)), .c (.v (.int .i64 a2))] [.c (.p (.v (.bool r)))] [] := by
  refine Qn tb Tryz.func111 Z (by kernel_rfl) Z Z (Nat.le_of_ble_eq_true Z) Z ?_;intro E;unfold K9 Wx at h;refine Z5 (fun Q hQ => ?_);refine tD Z ?_;refine tk fun L hL => ?_;refine dN 4 Z ?_;refine Q2 Z Z Qe (fun hg => Q8 Z Z) ?_;refine Q2 Z Z Qe (fun hg => Q8 Z Z) ?_;refine Q2 Z Z Qe (fun hg => Qz (c := decide (a0 ≤ a2)) (Qd hg) (Qd hg) Z Z Z) ?_;refine u0 (Qm (v := .bool (decide (a0 ≤ a2))) (w := .bool false) Z Z Qe Z Qw) ?_;refine dN 1 Z ?_;refine rt (hL _ ?_);obtain rfl := h;exact Qf (hQ _ _ (Zv Z Z))
def Ve (a0 : Q6) (Q : Int → Prop) : Prop :=
 jn (fun (p1 : Bool × Bool × Bool × Bool) => (((!(p1.1)) = true → Q 5) ∧ ((!(p1.1)) = false → ((((bif (bif (bif !(p1.2.1) then (a0.fg != 0) else false) then true else (bif !(p1.2.2.1) then (a0.fq != 0) else false)) then true else (bif !(p1.2.2.2) then (a0.fu != 0) else false))) = true → Q 10) ∧ (((bif (bif (bif !(p1.2.1) then (a0.fg != 0) else false) then true else (bif !(p1.2.2.1) then (a0.fq != 0) else false)) then true else (bif !(p1.2.2.2) then (a0.fu != 0) else false))) = false → Q 0))))) (fun (J1 : Bool × Bool × Bool × Bool → Prop) => ((((a0.fm == 1)) = true → J1 (true, false, false, false)) ∧ (((a0.fm == 1)) = false → ((((a0.fm == 2)) = true → ∃ v2, K9 a0.fq 1 8 v2 ∧ ∃ (v3 : Bool), (v2 = true → K9 a0.fg 1 64 v3) ∧ J1 (((bif v2 then v3 else false)), true, true, true)) ∧ (((a0.fm == 2)) = false → ((((a0.fm == 3)) = true → ∃ v4, K9 a0.fg 2 8 v4 ∧ J1 (v4, true, false, true)) ∧ (((a0.fm == 3)) = false → jn (fun (p5 : Bool) => ((p5 = true → ∃ v6, K9 a0.fg 1 32 v6 ∧ J1 (v6, true, false, false)) ∧ (p5 = false → ((((a0.fm == 6)) = true → ∃ v7, K9 a0.fg 2 32 v7 ∧ J1 (((bif v7 then ((a0.fg.tmod 2) == 0) else false)), true, false, false)) ∧ (((a0.fm == 6)) = false → Q 8))))) (fun (J5 : Bool → Prop) => ((((a0.fm == 4)) = true → J5 (((a0.fm == 4)))) ∧ (((a0.fm == 4)) = false → J5 (((a0.fm == 5)))))))))))))
def Kf (a0 : Q6) (r : Int) : Prop := Ve a0 fun x => r = x
theorem UE {a0 : Q6} {r : Int} (h : Kf a0 r) : Qr Tryz.prog 70 [.agg (Vr a0)] [.c (.p (.v (.int .i64 r)))] [] := by
  refine Qn tb Tryz.func70 Z (by kernel_rfl) Z Z (Nat.le_of_ble_eq_true Z) Z ?_;intro E;unfold Kf Ve at h;refine Z5 (fun Q hQ => ?_);refine tD Z ?_;refine tD Z ?_;refine Z6 (fun (p1 : Bool × Bool × Bool × Bool) => (⟨[(1, .c (.ptr (1, 0) 0 0)), (3, .c (.p (.v (.bool p1.1)))), (4, .c (.p (.v (.bool p1.2.1)))), (5, .c (.p (.v (.bool p1.2.2.1)))), (6, .c (.p (.v (.bool p1.2.2.2))))], [((1, 0), some (.box (List.map CV.p (Vr a0))))]⟩ : St)) h (fun p1 h => ?_) (fun J1 L1 hL1 h => ?_)
  · refine sk fun L8 hL8 => ?_;refine tD Z ?_;refine cn h (fun h => ?_) fun h => ?_
    · refine tD Z ?_;obtain rfl := h;exact Qf (hQ _ _ (Zv Z Z))
    · refine Qh (hL8 _ ?_);refine sk fun L9 hL9 => ?_;refine tk fun L hL => ?_;refine dN 3 Z ?_;refine Q2 Z Z Qe (fun hg => Qc Z Z Z Z Z Z Z Z Z) ?_;refine Q2 Z Z Qe (fun hg => Q4 (Qd hg) Z Z Z Z Z) ?_;refine Q2 Z Z Qe (fun hg => Qz (c := (a0.fg != 0)) (Qd hg) Z Z Z Z) ?_;refine u0 (Qm (v := .bool ((a0.fg != 0))) (w := .bool false) Z Z Qe Z Qw) ?_;refine dN 1 Z ?_;refine Q2 Z Z Q5 (fun hg => Q8 Z Z) ?_;refine Q2 Z Z Q5 (fun hg => Z4 (Qd hg) Z Z) ?_;refine Q2 Z Z Q5 (fun hg => Q8 (Qd hg) Z) ?_;refine Qy Z Z QH (fun hg => Qc Z Z Z Z Z Z Z Z Z) ?_;refine Qy Z Z QH (fun hg => Q4 (Qd hg) Z Z Z Z Z) ?_;refine Qy Z Z QH (fun hg => Qz (c := (a0.fq != 0)) (Qd hg) Z Z Z Z) ?_;refine Q2 Z Z Q5 (fun hg => Qm (v := .bool ((a0.fq != 0))) (w := .bool false) (Qd hg) Z (Jj hg) Z Qw Z Z Z) ?_;refine u0 (Ql (v := .bool true) (w := .bool ((bif !(p1.2.2.1) then (a0.fq != 0) else false))) Z Z Q5 Z Qw) ?_;refine dN 1 Z ?_;refine Q2 Z Z Q5 (fun hg => Q8 Z Z) ?_;refine Q2 Z Z Q5 (fun hg => Z4 (Qd hg) Z Z) ?_
      refine Q2 Z Z Q5 (fun hg => Q8 (Qd hg) Z) ?_;refine Qy Z Z QH (fun hg => Qc Z Z Z Z Z Z Z Z Z) ?_;refine Qy Z Z QH (fun hg => Q4 (Qd hg) Z Z Z Z Z) ?_;refine Qy Z Z QH (fun hg => Qz (c := (a0.fu != 0)) (Qd hg) Z Z Z Z) ?_;refine Q2 Z Z Q5 (fun hg => Qm (v := .bool ((a0.fu != 0))) (w := .bool false) (Qd hg) Z (Jj hg) Z Qw Z Z Z) ?_;refine u0 (Ql (v := .bool true) (w := .bool ((bif !(p1.2.2.2) then (a0.fu != 0) else false))) Z Z Q5 Z Qw) ?_;refine rt (hL _ ?_);refine cn h (fun h => ?_) fun h => ?_
      · refine tD Z ?_;obtain rfl := h;exact Qf (hQ _ _ (Zv Z Z))
      · refine Qh (hL9 _ ?_);refine QP (st' := ⟨[], []⟩) QC.fit ?_;refine tD Z ?_;obtain rfl := h;exact Qf (hQ _ _ (Zv Z Z))
  · refine tD Z ?_;refine Qt ?_;refine tD Z ?_;refine cn h (fun h => ?_) fun h => ?_
    · refine tE Z (hL1 _ _ h QC.fit)
    · refine tD Z ?_;refine cn h (fun h => ?_) fun h => ?_
      · refine tk fun L hL => ?_;refine dN 2 Z ?_;obtain ⟨v2, hv2, h⟩ := h;refine u0 (QO (VI hv2)) ?_;refine dN 1 Z ?_;refine Q2 Z Z Qe (fun hg => Qc Z Z Z Z Z Z Z Z Z) ?_;refine Q2 Z Z Qe (fun hg => Q4 (Qd hg) Z Z Z Z Z) ?_;obtain ⟨v3, hv3, h⟩ := h;refine Q2 Z Z Qe (fun hg => QN (VI (hv3 hg)) Z Z (.cons (Zn hg (.c (.p _))) (.cons (.c (.p _)) (.cons (.c (.p _)) .nil))) Z Z Z) ?_;refine u0 (Qm (v := .bool v3) (w := .bool false) Z Z Qe Z Qw) ?_;refine dN 1 Z ?_;refine rt (hL _ ?_);refine tE Z (hL1 _ _ h QC.fit)
      · refine tD Z ?_;refine cn h (fun h => ?_) fun h => ?_
        · refine tk fun L hL => ?_;refine dN 2 Z ?_;obtain ⟨v4, hv4, h⟩ := h;refine u0 (QO (VI hv4)) ?_;refine dN 1 Z ?_;refine rt (hL _ ?_);refine tE Z (hL1 _ _ h QC.fit)
        · refine Z6 (fun (p5 : Bool) => (⟨[(1, .c (.ptr (1, 0) 0 0)), (4, .c (.p (.v (.bool true)))), (5, .c (.p (.v (.bool false)))), (6, .c (.p (.v (.bool false)))), (8, .c (.p (.v (.int .i64 a0.fm)))), (26, .c (.p (.v (.bool p5))))], [((1, 0), some (.box (List.map CV.p (Vr a0))))]⟩ : St)) h (fun p5 h => ?_) (fun J5 L5 hL5 h => ?_)
          · refine cn h (fun h => ?_) fun h => ?_
            · refine tl fun L hL => ?_;refine dN 2 Z ?_;obtain ⟨v6, hv6, h⟩ := h;refine u0 (QO (VI hv6)) ?_;refine dN 1 Z ?_;refine rt (hL _ (hL1 _ _ h QC.fit))
            · refine tD Z ?_;refine cn h (fun h => ?_) fun h => ?_
              · refine tl fun L hL => ?_;refine dN 2 Z ?_;obtain ⟨v7, hv7, h⟩ := h;refine u0 (QO (VI hv7)) ?_;refine dN 1 Z ?_;refine Q2 Z Z Qe (fun hg => Qc Z Z Z Z Z Z Z Z Z) ?_;refine Q2 Z Z Qe (fun hg => Q4 (Qd hg) Z Z Z Z Z) ?_;refine Q2 Z Z Qe (fun hg => EQ (by decide) (Qd hg) Z Z Z) ?_;refine Q2 Z Z Qe (fun hg => Qz (c := ((a0.fg.tmod 2) == 0)) (Qd hg) Z Z Z Z) ?_;refine u0 (Qm (v := .bool (((a0.fg.tmod 2) == 0))) (w := .bool false) Z Z Qe Z Qw) ?_;refine dN 1 Z ?_;refine rt (hL _ (hL1 _ _ h QC.fit))
              · refine tD Z ?_;obtain rfl := h;exact Qf (hQ _ _ (Zv Z Z))
          · refine tD Z ?_;refine cn h (fun h => ?_) fun h => ?_
            · refine Qh (hL5 _ _ h QC.fit)
            · refine tE Z (hL5 _ _ h QC.fit)
def Up (a0 : ByteArray) (Q : Bool → Prop) : Prop :=
 Q (((bif decide (((a0.size : Int)) ≥ 1) then decide (((a0.size : Int)) ≤ 32) else false)))
def VV (a0 : ByteArray) (r : Bool) : Prop := Up a0 fun x => r = x
theorem Bu {a0 : ByteArray} {r : Bool} (h : VV a0 r) : Qr Tryz.prog 113 [.c (.v (.string a0))] [.c (.p (.v (.bool r)))] [] := by
  refine Qn tb Tryz.func113 Z (by kernel_rfl) Z Z (Nat.le_of_ble_eq_true Z) Z ?_;intro E;unfold VV Up at h;refine Z5 (fun Q hQ => ?_);refine tD Z ?_;refine tk fun L hL => ?_;refine dN 1 Z ?_;refine u0 Kc ?_;refine dN 2 Z ?_;refine Q2 Z Z Qe (fun hg => Q8 Z Z) ?_;refine Q2 Z Z Qe (fun hg => Kc (Qd hg) Z Z Z) ?_;refine Q2 Z Z Qe (fun hg => Qz (c := decide (((a0.size : Int)) ≤ 32)) (Qd hg) Z Z Z Z) ?_;refine u0 (Qm (v := .bool (decide (((a0.size : Int)) ≤ 32))) (w := .bool false) Z Z Qe Z Qw) ?_;refine dN 1 Z ?_;refine rt (hL _ ?_);obtain rfl := h;exact Qf (hQ _ _ (Zv Z Z))
def Xs (a0 : Qi) (Q : Int → Prop) : Prop :=
 ∃ v2, VV a0.fa2 v2 ∧ (((!(v2)) = true → Q 7) ∧ ((!(v2)) = false → ((((bif decide (a0.fa6 < 1) then true else decide (a0.fa6 > 4294967295))) = true → Q 5) ∧ (((bif decide (a0.fa6 < 1) then true else decide (a0.fa6 > 4294967295))) = false → Q 0))))
def KX (a0 : Qi) (r : Int) : Prop := Xs a0 fun x => r = x
theorem AJ {a0 : Qi} {r : Int} (h : KX a0 r) : Qr Tryz.prog 112 [.agg (QL a0)] [.c (.p (.v (.int .i64 r)))] [] := by
  refine Qn tb Tryz.func112 Z (by kernel_rfl) Z Z (Nat.le_of_ble_eq_true Z) Z ?_;intro E;unfold KX Xs at h;refine Z5 (fun Q hQ => ?_);refine tD Z ?_;refine sk fun L1 hL1 => ?_;refine tk fun L hL => ?_;refine dN 2 Z ?_;obtain ⟨v2, hv2, h⟩ := h;refine u0 (QO (Bu hv2)) ?_;refine dN 1 Z ?_;refine rt (hL _ ?_);refine cn h (fun h => ?_) fun h => ?_
  · refine tD Z ?_;obtain rfl := h;exact Qf (hQ _ _ (Zv Z Z))
  · refine Qh (hL1 _ ?_);refine sk fun L3 hL3 => ?_;refine tk fun L hL => ?_;refine dN 4 Z ?_;refine Q2 Z Z Q5 (fun hg => Qc Z Z Z Z Z Z Z Z Z) ?_;refine Q2 Z Z Q5 (fun hg => Q4 (Qd hg) Z Z Z Z Z) ?_;refine Q2 Z Z Q5 (fun hg => Qz (c := decide (a0.fa6 > 4294967295)) (Qd hg) Z Z Z Z) ?_;refine u0 (Ql (v := .bool true) (w := .bool (decide (a0.fa6 > 4294967295))) Z Z Q5 Z Qw) ?_;refine rt (hL _ ?_);refine cn h (fun h => ?_) fun h => ?_
    · refine tD Z ?_;obtain rfl := h;exact Qf (hQ _ _ (Zv Z Z))
    · refine Qh (hL3 _ ?_);refine QP (st' := ⟨[], []⟩) QC.fit ?_;refine tD Z ?_;obtain rfl := h;exact Qf (hQ _ _ (Zv Z Z))
def YE (a0 : (List Qi)) (Q : Int → Prop) : Prop :=
 ∃ v2, Za ((a0.length : Int)) 1 64 v2 ∧ ((((v2 != 0)) = true → Q v2) ∧ (((v2 != 0)) = false → jn (fun (p3 : Unit) => Q 0) (fun (J3 : Unit → Prop) => lp (fun (X4 : Int → Prop) (s4 : Int) => (((decide (s4 < ((a0.length : Int)))) = true → ∃ v7, ix a0 s4 v7 ∧ ∃ v8, KX v7 v8 ∧ ((((v8 != 0)) = true → Q v8) ∧ (((v8 != 0)) = false → X4 ((IntKind.i64.wrap (s4 + 1)))))) ∧ ((decide (s4 < ((a0.length : Int)))) = false → J3 (())))) 0)))
def JR (a0 : (List Qi)) (r : Int) : Prop := YE a0 fun x => r = x
theorem CO {a0 : (List Qi)} {r : Int} (h : JR a0 r) : Qr Tryz.prog 71 [.c (.l 2 (List.map QL a0))] [.c (.p (.v (.int .i64 r)))] [] := by
  refine Qn tb Tryz.func71 Z (by kernel_rfl) Z Z (Nat.le_of_ble_eq_true Z) Z ?_;intro E;unfold JR YE at h;refine Z5 (fun Q hQ => ?_);refine tD Z ?_;refine sk fun L1 hL1 => ?_;refine tk fun L hL => ?_;refine dN 1 Z ?_;refine u0 QA ?_;obtain ⟨v2, hv2, h⟩ := h;refine u0 (QO (ZH hv2)) ?_;refine dN 1 Z ?_;refine rt (hL _ ?_);refine tD Z ?_;refine cn h (fun h => ?_) fun h => ?_
  · refine tD Z ?_;obtain rfl := h;exact Qf (hQ _ _ (Zv Z Z))
  · refine Qh (hL1 _ ?_);refine Z6 (fun (p3 : Unit) => (⟨[], []⟩ : St)) h (fun p3 h => ?_) (fun J3 L3 hL3 h => ?_)
    · refine tD Z ?_;obtain rfl := h;exact Qf (hQ _ _ (Zv Z Z))
    · refine tk fun L hL => ?_;refine dN 1 Z ?_;refine u0 QA ?_;refine dN 1 Z ?_;refine rt (hL _ ?_);refine Qt ?_;refine Zr (fun (s4 : Int) => (⟨[(13, .c (.p (.l 2 (List.map QL a0)))), (14, .c (.p (.v (.int .i64 ((a0.length : Int)))))), (15, .c (.p (.v (.int .i64 s4))))], []⟩ : St)) h QC.fit (fun X4 L4 hL4 s4 h => ?_);refine tD Z ?_;refine sk fun L5 hL5 => ?_;refine cn h (fun h => ?_) fun h => ?_
      · refine Qh (hL5 _ ?_);refine sk fun L6 hL6 => ?_;refine Qt ?_;refine tk fun L hL => ?_;obtain ⟨v7, hv7, h⟩ := h;refine u0 (QD hv7) ?_;refine dN 3 Z ?_;refine rt (hL _ ?_);refine tk fun L hL => ?_;refine dN 1 Z ?_;obtain ⟨v8, hv8, h⟩ := h;refine u0 (QO (AJ hv8)) ?_;refine dN 1 Z ?_;refine rt (hL _ ?_);refine tD Z ?_;refine cn h (fun h => ?_) fun h => ?_
        · refine tD Z ?_;obtain rfl := h;exact Qf (hQ _ _ (Zv Z Z))
        · refine Qh (hL6 _ ?_);refine tE Z (hL4 _ _ h QC.fit)
      · refine QQ (hL3 _ _ h QC.fit)
def YF (a0 : (List Int)) (a1 : Int) (Q : Int → Prop) : Prop :=
 (((decide (((a0.length : Int)) > a1)) = true → Q 11) ∧ ((decide (((a0.length : Int)) > a1)) = false → Q 0))
def J0 (a0 : (List Int)) (a1 : Int) (r : Int) : Prop := YF a0 a1 fun x => r = x
theorem Uc {a0 : (List Int)} {a1 : Int} {r : Int} (h : J0 a0 a1 r) : Qr Tryz.prog 72 [.c (.l 1 (List.map (eI .u8) a0)), .c (.v (.int .i64 a1))] [.c (.p (.v (.int .i64 r)))] [] := by
  refine Qn tb Tryz.func72 Z (by kernel_rfl) Z Z (Nat.le_of_ble_eq_true Z) Z ?_;intro E;unfold J0 YF at h;refine Z5 (fun Q hQ => ?_);refine tD Z ?_;refine sk fun L1 hL1 => ?_;refine tk fun L hL => ?_;refine dN 1 Z ?_;refine u0 QA ?_;refine dN 2 Z ?_;refine rt (hL _ ?_);refine cn h (fun h => ?_) fun h => ?_
  · refine tD Z ?_;obtain rfl := h;exact Qf (hQ _ _ (Zv Z Z))
  · refine Qh (hL1 _ ?_);refine tD Z ?_;obtain rfl := h;exact Qf (hQ _ _ (Zv Z Z))
def W4 (a0 : Qu) (Q : Int → Prop) : Prop :=
 ((((bif decide (a0.fm < 1) then true else decide (a0.fm > 7))) = true → Q 8) ∧ (((bif decide (a0.fm < 1) then true else decide (a0.fm > 7))) = false → ∃ (v3 : Bool), (((bif (a0.fm == 2) then true else (a0.fm == 6))) = true → VV a0.fa2 v3) ∧ ((((bif (bif (a0.fm == 2) then true else (a0.fm == 6)) then !(v3) else false)) = true → Q 7) ∧ (((bif (bif (a0.fm == 2) then true else (a0.fm == 6)) then !(v3) else false)) = false → ((((bif (a0.fm == 5) then (bif decide (a0.f0 < 0) then true else decide (a0.f0 > 32)) else false)) = true → Q 5) ∧ (((bif (a0.fm == 5) then (bif decide (a0.f0 < 0) then true else decide (a0.f0 > 32)) else false)) = false → ((((bif (a0.fm == 7) then (bif (bif (bif decide (a0.fb8 < 1) then true else decide (a0.fb8 > 1000000)) then true else decide (a0.fb9 < 0)) then true else decide (a0.fb9 > a0.fb8)) else false)) = true → Q 5) ∧ (((bif (a0.fm == 7) then (bif (bif (bif decide (a0.fb8 < 1) then true else decide (a0.fb8 > 1000000)) then true else decide (a0.fb9 < 0)) then true else decide (a0.fb9 > a0.fb8)) else false)) = false → ((((bif (bif (bif !((bif (a0.fm == 2) then true else (a0.fm == 6))) then (!(a0.fa2.toList == ((⟨#[]⟩ : ByteArray)).toList)) else false) then true else (bif !((a0.fm == 5)) then (a0.f0 != 0) else false)) then true else (bif !((a0.fm == 7)) then (bif (a0.fb9 != 0) then true else (a0.fb8 != 0)) else false))) = true → Q 18) ∧ (((bif (bif (bif !((bif (a0.fm == 2) then true else (a0.fm == 6))) then (!(a0.fa2.toList == ((⟨#[]⟩ : ByteArray)).toList)) else false) then true else (bif !((a0.fm == 5)) then (a0.f0 != 0) else false)) then true else (bif !((a0.fm == 7)) then (bif (a0.fb9 != 0) then true else (a0.fb8 != 0)) else false))) = false → Q 0))))))))))
def Vf (a0 : Qu) (r : Int) : Prop := W4 a0 fun x => r = x
theorem Dv {a0 : Qu} {r : Int} (h : Vf a0 r) : Qr Tryz.prog 74 [.agg (Wj a0)] [.c (.p (.v (.int .i64 r)))] [] := by
  refine Qn tb Tryz.func74 Z (by kernel_rfl) Z Z (Nat.le_of_ble_eq_true Z) Z ?_;intro E;unfold Vf W4 at h;refine Z5 (fun Q hQ => ?_);refine tD Z ?_;refine sk fun L1 hL1 => ?_;refine tk fun L hL => ?_;refine dN 4 Z ?_;refine Q2 Z Z Q5 (fun hg => Qc Z Z Z Z Z Z Z Z Z) ?_;refine Q2 Z Z Q5 (fun hg => Q4 (Qd hg) Z Z Z Z Z) ?_;refine Q2 Z Z Q5 (fun hg => Qz (c := decide (a0.fm > 7)) (Qd hg) Z Z Z Z) ?_;refine u0 (Ql (v := .bool true) (w := .bool (decide (a0.fm > 7))) Z Z Q5 Z Qw) ?_;refine rt (hL _ ?_);refine cn h (fun h => ?_) fun h => ?_
  · refine tD Z ?_;obtain rfl := h;exact Qf (hQ _ _ (Zv Z Z))
  · refine Qh (hL1 _ ?_);refine QP (st' := ⟨[(1, .c (.ptr (1, 0) 0 0))], [((1, 0), some (.box (List.map CV.p (Wj a0))))]⟩) QC.fit ?_;refine tk fun L hL => ?_;refine dN 4 Z ?_;refine Q2 Z Z Q5 (fun hg => Qc Z Z Z Z Z Z Z Z Z) ?_;refine Q2 Z Z Q5 (fun hg => Q4 (Qd hg) Z Z Z Z Z) ?_;refine Q2 Z Z Q5 (fun hg => Qz (c := (a0.fm == 6)) (Qd hg) Z Z Z Z) ?_;refine u0 (Ql (v := .bool true) (w := .bool ((a0.fm == 6))) Z Z Q5 Z Qw) ?_;refine dN 1 Z ?_;refine rt (hL _ ?_);refine dk mixed (fun L hL => ?_);refine dN 8 Z ?_;refine rd (hL _ ?_);refine sk fun L2 hL2 => ?_;refine Qt ?_;refine tk fun L hL => ?_;refine dN 2 Z ?_;refine Q2 Z Z Qe (fun hg => Qc Z Z Z Z Z Z Z Z Z) ?_;refine Q2 Z Z Qe (fun hg => Q4 (Qd hg) Z Z Z Z Z) ?_;obtain ⟨v3, hv3, h⟩ := h;refine Q2 Z Z Qe (fun hg => QN (Bu (hv3 hg)) Z Z (.cons (Zn hg (.c (.p _))) .nil) Z Z Z) ?_;refine Q2 Z Z Qe (fun hg => Z4 (Qd hg) Z Z) ?_;refine u0 (Qm (v := .bool (!(v3))) (w := .bool false) Z Z Qe Z Qw) ?_;refine dN 1 Z ?_;refine rt (hL _ ?_);refine cn h (fun h => ?_) fun h => ?_
    · refine tD Z ?_;obtain rfl := h;exact Qf (hQ _ _ (Zv Z Z))
    · refine tk fun L hL => ?_;refine dN 2 Z ?_;refine Q2 Z Z Qe (fun hg => Qc Z Z Z Z Z Z Z Z Z) ?_;refine Q2 Z Z Qe (fun hg => Q4 (Qd hg) Z Z Z Z Z) ?_;refine Q2 Z Z Qe (fun hg => Qz (c := decide (a0.f0 < 0)) (Qd hg) Z Z Z Z) ?_;refine Q2 Z Z Qe (fun hg => Q8 (Qd hg) Z) ?_;refine Qy Z Z Zh (fun hg => Qc Z Z Z Z Z Z Z Z Z) ?_;refine Qy Z Z Zh (fun hg => Q4 (Qd hg) Z Z Z Z Z) ?_;refine Qy Z Z Zh (fun hg => Qz (c := decide (a0.f0 > 32)) (Qd hg) Z Z Z Z) ?_;refine Q2 Z Z Qe (fun hg => Ql (v := .bool true) (w := .bool (decide (a0.f0 > 32))) (Qd hg) Z (WR hg) Z Qw Z Z Z) ?_;refine u0 (Qm (v := .bool ((bif decide (a0.f0 < 0) then true else decide (a0.f0 > 32)))) (w := .bool false) Z Z Qe Z Qw) ?_;refine dN 1 Z ?_;refine rt (hL _ ?_);refine cn h (fun h => ?_) fun h => ?_
      · refine tD Z ?_;obtain rfl := h;exact Qf (hQ _ _ (Zv Z Z))
      · refine tk fun L hL => ?_;refine dN 2 Z ?_;refine Q2 Z Z Qe (fun hg => Qc Z Z Z Z Z Z Z Z Z) ?_;refine Q2 Z Z Qe (fun hg => Q4 (Qd hg) Z Z Z Z Z) ?_;refine Q2 Z Z Qe (fun hg => Qz (c := decide (a0.fb8 < 1)) (Qd hg) Z Z Z Z) ?_;refine Q2 Z Z Qe (fun hg => Q8 (Qd hg) Z) ?_;refine Qy Z Z Zh (fun hg => Qc Z Z Z Z Z Z Z Z Z) ?_;refine Qy Z Z Zh (fun hg => Q4 (Qd hg) Z Z Z Z Z) ?_;refine Qy Z Z Zh (fun hg => Qz (c := decide (a0.fb8 > 1000000)) (Qd hg) Z Z Z Z) ?_;refine Q2 Z Z Qe (fun hg => Ql (v := .bool true) (w := .bool (decide (a0.fb8 > 1000000))) (Qd hg) Z (WR hg) Z Qw Z Z Z) ?_;refine Q2 Z Z Qe (fun hg => Q8 (Qd hg) Z) ?_;refine Qy Z Z Zh (fun hg => Qc Z Z Z Z Z Z Z Z Z) ?_;refine Qy Z Z Zh (fun hg => Q4 (Qd hg) Z Z Z Z Z) ?_;refine Qy Z Z Zh (fun hg => Qz (c := decide (a0.fb9 < 0)) (Qd hg) Z Z Z Z) ?_;refine Q2 Z Z Qe (fun hg => Ql (v := .bool true) (w := .bool (decide (a0.fb9 < 0))) (Qd hg) Z (WR hg) Z Qw Z Z Z) ?_;refine Q2 Z Z Qe (fun hg => Q8 (Qd hg) Z) ?_
        refine Qy Z Z Zh (fun hg => Qc Z Z Z Z Z Z Z Z Z) ?_;refine Qy Z Z Zh (fun hg => Q4 (Qd hg) Z Z Z Z Z) ?_;refine Qy Z Z Zh (fun hg => Qc Z Z Z Z Z Z Z Z Z) ?_;refine Qy Z Z Zh (fun hg => Q4 (Qd hg) Z Z Z Z Z) ?_;refine Qy Z Z Zh (fun hg => Qz (c := decide (a0.fb9 > a0.fb8)) (Qd hg) (Qd hg) Z Z Z) ?_;refine Q2 Z Z Qe (fun hg => Ql (v := .bool true) (w := .bool (decide (a0.fb9 > a0.fb8))) (Qd hg) Z (WR hg) Z Qw Z Z Z) ?_;refine u0 (Qm (v := .bool ((bif (bif (bif decide (a0.fb8 < 1) then true else decide (a0.fb8 > 1000000)) then true else decide (a0.fb9 < 0)) then true else decide (a0.fb9 > a0.fb8)))) (w := .bool false) Z Z Qe Z Qw) ?_;refine dN 1 Z ?_;refine rt (hL _ ?_);refine QP (st' := ⟨[(1, .c (.ptr (1, 0) 0 0)), (3, .c (.p (.v (.bool ((bif (a0.fm == 2) then true else (a0.fm == 6))))))), (4, .c (.p (.v (.bool ((a0.fm == 5)))))), (5, .c (.p (.v (.bool ((a0.fm == 7)))))), (48, .c (.p (.v (.bool ((bif (a0.fm == 7) then (bif (bif (bif decide (a0.fb8 < 1) then true else decide (a0.fb8 > 1000000)) then true else decide (a0.fb9 < 0)) then true else decide (a0.fb9 > a0.fb8)) else false))))))], [((1, 0), some (.box (List.map CV.p (Wj a0))))]⟩) QC.fit ?_
        refine cn h (fun h => ?_) fun h => ?_
        · refine tD Z ?_;obtain rfl := h;exact Qf (hQ _ _ (Zv Z Z))
        · refine tk fun L hL => ?_;refine dN 3 Z ?_;refine Q2 Z Z Qe (fun hg => Qc Z Z Z Z Z Z Z Z Z) ?_;refine Q2 Z Z Qe (fun hg => Q4 (Qd hg) Z Z Z Z Z) ?_;refine Q2 Z Z Qe (fun hg => Xb (c := (!(a0.fa2.toList == ((⟨#[]⟩ : ByteArray)).toList))) (Qd hg) Z Z Z Z) ?_;refine u0 (Qm (v := .bool ((!(a0.fa2.toList == ((⟨#[]⟩ : ByteArray)).toList)))) (w := .bool false) Z Z Qe Z Qw) ?_;refine dN 1 Z ?_;refine Q2 Z Z Q5 (fun hg => Q8 Z Z) ?_;refine Q2 Z Z Q5 (fun hg => Z4 (Qd hg) Z Z) ?_;refine Q2 Z Z Q5 (fun hg => Q8 (Qd hg) Z) ?_;refine Qy Z Z QH (fun hg => Qc Z Z Z Z Z Z Z Z Z) ?_;refine Qy Z Z QH (fun hg => Q4 (Qd hg) Z Z Z Z Z) ?_;refine Qy Z Z QH (fun hg => Qz (c := (a0.f0 != 0)) (Qd hg) Z Z Z Z) ?_;refine Q2 Z Z Q5 (fun hg => Qm (v := .bool ((a0.f0 != 0))) (w := .bool false) (Qd hg) Z (Jj hg) Z Qw Z Z Z) ?_;refine u0 (Ql (v := .bool true) (w := .bool ((bif !((a0.fm == 5)) then (a0.f0 != 0) else false))) Z Z Q5 Z Qw) ?_;refine dN 1 Z ?_;refine Q2 Z Z Q5 (fun hg => Q8 Z Z) ?_
          refine Q2 Z Z Q5 (fun hg => Z4 (Qd hg) Z Z) ?_;refine Q2 Z Z Q5 (fun hg => Q8 (Qd hg) Z) ?_;refine Qy Z Z QH (fun hg => Qc Z Z Z Z Z Z Z Z Z) ?_;refine Qy Z Z QH (fun hg => Q4 (Qd hg) Z Z Z Z Z) ?_;refine Qy Z Z QH (fun hg => Qz (c := (a0.fb9 != 0)) (Qd hg) Z Z Z Z) ?_;refine Qy Z Z QH (fun hg => Q8 (Qd hg) Z) ?_;refine Qy Z Z Zh (fun hg => Qc Z Z Z Z Z Z Z Z Z) ?_;refine Qy Z Z Zh (fun hg => Q4 (Qd hg) Z Z Z Z Z) ?_;refine Qy Z Z Zh (fun hg => Qz (c := (a0.fb8 != 0)) (Qd hg) Z Z Z Z) ?_;refine Qy Z Z QH (fun hg => Ql (v := .bool true) (w := .bool ((a0.fb8 != 0))) (Qd hg) Z (WR hg) Z Qw Z Z Z) ?_;refine Q2 Z Z Q5 (fun hg => Qm (v := .bool ((bif (a0.fb9 != 0) then true else (a0.fb8 != 0)))) (w := .bool false) (Qd hg) Z (Jj hg) Z Qw Z Z Z) ?_;refine u0 (Ql (v := .bool true) (w := .bool ((bif !((a0.fm == 7)) then (bif (a0.fb9 != 0) then true else (a0.fb8 != 0)) else false))) Z Z Q5 Z Qw) ?_;refine dN 1 Z ?_;refine rt (hL _ ?_);refine cn h (fun h => ?_) fun h => ?_
          · refine tD Z ?_;obtain rfl := h;exact Qf (hQ _ _ (Zv Z Z))
          · refine Qh (hL2 _ ?_);refine QP (st' := ⟨[], []⟩) QC.fit ?_;refine tD Z ?_;obtain rfl := h;exact Qf (hQ _ _ (Zv Z Z))
def YG (a0 : Qp) (a1 : Int) (Q : Int → Prop) : Prop :=
 ((((a1 == 0)) = true → ∃ v2, Jv a0.fb6 v2 ∧ Q v2) ∧ (((a1 == 0)) = false → ((((a1 == 1)) = true → ∃ v3, Jv a0.fj v3 ∧ Q v3) ∧ (((a1 == 1)) = false → ((((a1 == 2)) = true → ∃ v4, Vd a0.fa0 v4 ∧ Q v4) ∧ (((a1 == 2)) = false → ((((a1 == 3)) = true → ∃ v5, Kf a0.fb v5 ∧ Q v5) ∧ (((a1 == 3)) = false → ((((a1 == 4)) = true → ∃ v6, JR a0.f8 v6 ∧ Q v6) ∧ (((a1 == 4)) = false → ((((a1 == 5)) = true → ∃ v7, J0 a0.fb3 64 v7 ∧ Q v7) ∧ (((a1 == 5)) = false → ((((a1 == 6)) = true → ∃ v8, Za a0.fa1 1 1048576 v8 ∧ Q v8) ∧ (((a1 == 6)) = false → ((((a1 == 7)) = true → ∃ v9, Za a0.fa9 1 1048576 v9 ∧ Q v9) ∧ (((a1 == 7)) = false → ((((a1 == 8)) = true → ∃ v10, Za a0.fa4 0 3 v10 ∧ Q v10) ∧ (((a1 == 8)) = false → ((((a1 == 9)) = true → ∃ v11, Za a0.fb4 0 15 v11 ∧ Q v11) ∧ (((a1 == 9)) = false → ((((a1 == 10)) = true → ∃ v12, Za a0.fa5 0 3 v12 ∧ Q v12) ∧ (((a1 == 10)) = false → ((((a1 == 11)) = true → ∃ v13, Za a0.f0 0 32 v13 ∧ Q v13) ∧ (((a1 == 11)) = false → ((((a1 == 12)) = true → ∃ v14, Vf a0.fv v14 ∧ Q v14) ∧ (((a1 == 12)) = false → ∃ v15, J0 a0.fb5 65536 v15 ∧ Q v15))))))))))))))))))))))))))
def JS (a0 : Qp) (a1 : Int) (r : Int) : Prop := YG a0 a1 fun x => r = x
theorem CP {a0 : Qp} {a1 : Int} {r : Int} (h : JS a0 a1 r) : Qr Tryz.prog 42 [.agg (Zi a0), .c (.v (.int .i64 a1))] [.c (.p (.v (.int .i64 r)))] [] := by
  refine Qn tb Tryz.func42 Z (by kernel_rfl) Z Z (Nat.le_of_ble_eq_true Z) Z ?_;intro E;unfold JS YG at h;refine Z5 (fun Q hQ => ?_);refine tD Z ?_;refine sk fun L1 hL1 => ?_;refine tD Z ?_;refine Qt ?_;refine tD Z ?_;refine cn h (fun h => ?_) fun h => ?_
  · refine tk fun L hL => ?_;refine dN 2 Z ?_;obtain ⟨v2, hv2, h⟩ := h;refine u0 (QO (W2 hv2)) ?_;refine dN 1 Z ?_;refine rt (hL _ ?_);obtain rfl := h;exact Qf (hQ _ _ (Zv Z Z))
  · refine tD Z ?_;refine cn h (fun h => ?_) fun h => ?_
    · refine tk fun L hL => ?_;refine dN 2 Z ?_;obtain ⟨v3, hv3, h⟩ := h;refine u0 (QO (W2 hv3)) ?_;refine dN 1 Z ?_;refine rt (hL _ ?_);obtain rfl := h;exact Qf (hQ _ _ (Zv Z Z))
    · refine tD Z ?_;refine cn h (fun h => ?_) fun h => ?_
      · refine tk fun L hL => ?_;refine dN 2 Z ?_;obtain ⟨v4, hv4, h⟩ := h;refine u0 (QO (Du hv4)) ?_;refine dN 1 Z ?_;refine rt (hL _ ?_);obtain rfl := h;exact Qf (hQ _ _ (Zv Z Z))
      · refine tD Z ?_;refine cn h (fun h => ?_) fun h => ?_
        · refine tk fun L hL => ?_;refine dN 2 Z ?_;obtain ⟨v5, hv5, h⟩ := h;refine u0 (QO (UE hv5)) ?_;refine dN 1 Z ?_;refine rt (hL _ ?_);obtain rfl := h;exact Qf (hQ _ _ (Zv Z Z))
        · refine tD Z ?_;refine cn h (fun h => ?_) fun h => ?_
          · refine tk fun L hL => ?_;refine dN 2 Z ?_;obtain ⟨v6, hv6, h⟩ := h;refine u0 (QO (CO hv6)) ?_;refine dN 1 Z ?_;refine rt (hL _ ?_);obtain rfl := h;exact Qf (hQ _ _ (Zv Z Z))
          · refine tD Z ?_;refine cn h (fun h => ?_) fun h => ?_
            · refine tk fun L hL => ?_;refine dN 2 Z ?_;obtain ⟨v7, hv7, h⟩ := h;refine u0 (QO (Uc hv7)) ?_;refine dN 1 Z ?_;refine rt (hL _ ?_);obtain rfl := h;exact Qf (hQ _ _ (Zv Z Z))
            · refine tD Z ?_;refine cn h (fun h => ?_) fun h => ?_
              · refine tk fun L hL => ?_;refine dN 2 Z ?_;obtain ⟨v8, hv8, h⟩ := h;refine u0 (QO (ZH hv8)) ?_;refine dN 1 Z ?_;refine rt (hL _ ?_);obtain rfl := h;exact Qf (hQ _ _ (Zv Z Z))
              · refine tD Z ?_;refine cn h (fun h => ?_) fun h => ?_
                · refine tk fun L hL => ?_;refine dN 2 Z ?_;obtain ⟨v9, hv9, h⟩ := h;refine u0 (QO (ZH hv9)) ?_;refine dN 1 Z ?_;refine rt (hL _ ?_);obtain rfl := h;exact Qf (hQ _ _ (Zv Z Z))
                · refine tD Z ?_;refine cn h (fun h => ?_) fun h => ?_
                  · refine tk fun L hL => ?_;refine dN 2 Z ?_;obtain ⟨v10, hv10, h⟩ := h;refine u0 (QO (ZH hv10)) ?_;refine dN 1 Z ?_;refine rt (hL _ ?_);obtain rfl := h;exact Qf (hQ _ _ (Zv Z Z))
                  · refine tD Z ?_;refine cn h (fun h => ?_) fun h => ?_
                    · refine tk fun L hL => ?_;refine dN 2 Z ?_;obtain ⟨v11, hv11, h⟩ := h;refine u0 (QO (ZH hv11)) ?_;refine dN 1 Z ?_;refine rt (hL _ ?_);obtain rfl := h;exact Qf (hQ _ _ (Zv Z Z))
                    · refine tD Z ?_;refine cn h (fun h => ?_) fun h => ?_
                      · refine tk fun L hL => ?_;refine dN 2 Z ?_;obtain ⟨v12, hv12, h⟩ := h;refine u0 (QO (ZH hv12)) ?_;refine dN 1 Z ?_;refine rt (hL _ ?_);obtain rfl := h;exact Qf (hQ _ _ (Zv Z Z))
                      · refine tD Z ?_;refine cn h (fun h => ?_) fun h => ?_
                        · refine tk fun L hL => ?_;refine dN 2 Z ?_;obtain ⟨v13, hv13, h⟩ := h;refine u0 (QO (ZH hv13)) ?_;refine dN 1 Z ?_;refine rt (hL _ ?_);obtain rfl := h;exact Qf (hQ _ _ (Zv Z Z))
                        · refine tD Z ?_;refine cn h (fun h => ?_) fun h => ?_
                          · refine tk fun L hL => ?_;refine dN 2 Z ?_;obtain ⟨v14, hv14, h⟩ := h;refine u0 (QO (Dv hv14)) ?_;refine dN 1 Z ?_;refine rt (hL _ ?_);obtain rfl := h;exact Qf (hQ _ _ (Zv Z Z))
                          · refine Qh (hL1 _ ?_);refine tk fun L hL => ?_;refine dN 2 Z ?_;obtain ⟨v15, hv15, h⟩ := h;refine u0 (QO (Uc hv15)) ?_;refine dN 1 Z ?_;refine rt (hL _ ?_);obtain rfl := h;exact Qf (hQ _ _ (Zv Z Z))
end Go.Proofs.YtpnpodbihdiegaaGreat

namespace Go.Proofs.YtpnpodbihdiegaaGreat
open Go.RowKit
def Bv (b : Nat) (cs : Array Value) (t : TypeId) (w : World) : Prop := w.heap[b]? = some (.cells cs t (0, 0))
theorem Bv.lt {b : Nat} {cs : Array Value} {t : TypeId} {w : World} (h : Bv b cs t w) : b < w.heap.size := by
  unfold Bv at h
  exact (Array.getElem?_eq_some_iff.mp h).1
theorem Bv.cell {b : Nat} {cs : Array Value} {t : TypeId} {w : World} (h : Bv b cs t w) (i : Nat) {v : Value} (hi : cs[i]? = some v) : w.cell? ⟨b, i, none⟩ = some v := by
  unfold Bv at h
  simp [World.cell?, h, hi]
theorem Bv.froz {b : Nat} {cs : Array Value} {t : TypeId} {w : World} (h : Bv b cs t w) (i : Nat) : w.frozen? ⟨b, i, none⟩ = false := by
  unfold Bv at h
  simp [World.frozen?, h]
theorem Bv.keep {b : Nat} {cs : Array Value} {t : TypeId} {w w' : World} (h : Bv b cs t w) (g : w.grownBy w' none) : Bv b cs t w' := by
  have := g.block b h.lt (by simp)
  unfold Bv at *
  rw [this]; exact h
theorem Bv.new (w : World) (cs : Array Value) (t : TypeId) : Bv w.heap.size cs t (w.alloc (.cells cs t)) := by
  unfold Bv
  show (w.heap.push (.cells cs t))[w.heap.size]? = _
  simp
theorem Bv.set {b : Nat} {cs : Array Value} {t : TypeId} {w : World} (h : Bv b cs t w) (o : Nat) (v : Value) : Bv b (cs.setIfInBounds o v) t (w.setCell ⟨b, o, none⟩ v) := by
  unfold Bv at *
  simp [World.setCell, Array.getElem?_modify, h]
theorem Bv.drew {b : Nat} {cs : Array Value} {t : TypeId} {w : World} (h : Bv b cs t w) : Bv b cs t w.drew := h
def Row (k : IntKind) (t : TypeId) (g : Nat) (l : List Int) (w : World) : Prop := ∃ cur : Array Value, Bv g cur t w ∧ l.length ≤ cur.size ∧ ∀ i, i < l.length → cur[i]? = some (.int k (gI l i))
theorem Row.keep {k : IntKind} {t : TypeId} {g : Nat} {l : List Int} {w w' : World} (h : Row k t g l w) (hg : w.grownBy w' none) : Row k t g l w' := by
  obtain ⟨cur, h1, h2⟩ := h
  exact ⟨cur, h1.keep hg, h2⟩
theorem Row.drew {k : IntKind} {t : TypeId} {g : Nat} {l : List Int} {w : World} (h : Row k t g l w) : Row k t g l w.drew := h
theorem Row.lt {k : IntKind} {t : TypeId} {g : Nat} {l : List Int} {w : World} (h : Row k t g l w) : g < w.heap.size := by
  obtain ⟨cur, h1, h2⟩ := h
  exact h1.lt
theorem Row.cell {k : IntKind} {t : TypeId} {g : Nat} {l : List Int} {w : World} (h : Row k t g l w) {i : Nat} (hi : i < l.length) : w.cell? ⟨g, i, none⟩ = some (.int k (gI l i)) := by
  obtain ⟨cur, h1, h2, h3⟩ := h
  exact h1.cell i (h3 i hi)
theorem Row.froz {k : IntKind} {t : TypeId} {g : Nat} {l : List Int} {w : World} (h : Row k t g l w) (i : Nat) : w.frozen? ⟨g, i, none⟩ = false := by
  obtain ⟨cur, h1, _⟩ := h
  exact h1.froz i
theorem Row.set {k : IntKind} {t : TypeId} {g : Nat} {l : List Int} {w : World} (h : Row k t g l w) (i : Nat) (x : Int) : Row k t g (l.set i x) (w.setCell ⟨g, i, none⟩ (.int k x)) := by
  obtain ⟨cur, h1, h2, h3⟩ := h
  refine ⟨_, h1.set i (.int k x), by simpa using h2, fun j hj => ?_⟩
  simp only [List.length_set] at hj
  rw [Array.getElem?_setIfInBounds]
  by_cases e : i = j
  · subst e
    rw [if_pos rfl, if_pos (by omega)]
    simp [gI, List.getD_eq_getElem?_getD, List.getElem?_set, hj]
  · rw [if_neg e, h3 j hj]
    simp [gI, List.getD_eq_getElem?_getD, List.getElem?_set, e]
def M6 (p q : Nat) (w w' : World) : Prop := w'.os = w.os ∧ w'.tape = w.tape ∧ w'.output = w.output ∧ w.heap.size ≤ w'.heap.size ∧ ∀ k, k < w.heap.size → k ≠ p → k ≠ q → w'.heap[k]? = w.heap[k]?
theorem M6.refl (p q : Nat) (w : World) : M6 p q w w := ⟨rfl, rfl, rfl, Nat.le_refl _, fun _ _ _ _ => rfl⟩
theorem M6.size {p q : Nat} {w w' : World} (h : M6 p q w w') : w.heap.size ≤ w'.heap.size := h.2.2.2.1
theorem M6.grown {p q : Nat} {w w1 w2 : World} (h : M6 p q w w1) (g : w1.grownBy w2 none) : M6 p q w w2 := by
  obtain ⟨h1, h2, h3, h4, h5⟩ := h
  exact ⟨g.os.trans h1, g.tape.trans h2, g.output.trans h3, Nat.le_trans h4 g.size, fun k hk hp hq => (g.block k (Nat.lt_of_lt_of_le hk h4) (by simp)).trans (h5 k hk hp hq)⟩
theorem M6.drew {p q : Nat} {w w1 : World} (h : M6 p q w w1) : M6 p q w w1.drew := h
end Go.Proofs.YtpnpodbihdiegaaGreat
namespace Go.Proofs.YtpnpodbihdiegaaGreat
open Go.RowKit Go.ChangeShapes Go.WideShapes
def Yc (k : Int) : List Int :=
  if k = 1 then [0, 3] else if k = 2 then [0] else if k = 3 then [0, 1] else if k = 5 then [0, 12] else if k = 6 then [0, 4, 5] else if k = 7 then [0, 1, 5] else if k = 8 then [0, 1, 5, 6, 7]
  else if k = 9 then [2] else if k = 10 then [8, 9, 12] else if k = 11 then [8] else if k = 12 ∨ k = 15 then [8, 9] else if k = 13 then [10, 11] else if k = 14 then [10] else if k = 16 then [0, 13] else []
def Kg (k : Int) : Prop := 1 ≤ k ∧ k ≤ 17
instance (k : Int) : Decidable (Kg k) := by unfold Kg; infer_instance
theorem GU {k : Int} (h : Kg k) : k = 1 ∨ k = 2 ∨ k = 3 ∨ k = 4 ∨ k = 5 ∨ k = 6 ∨ k = 7 ∨ k = 8 ∨ k = 9 ∨ k = 10 ∨ k = 11 ∨ k = 12 ∨ k = 13 ∨ k = 14 ∨ k = 15 ∨ k = 16 ∨ k = 17 := by
  obtain ⟨h1, h2⟩ := h; omega
theorem Ob {k : Int} (h : ¬ Kg k) : (k == 1) = false ∧ (k == 2) = false ∧ (k == 3) = false ∧ (k == 4) = false ∧ (k == 5) = false ∧ (k == 6) = false ∧ (k == 7) = false ∧ (k == 8) = false ∧ (k == 9) = false ∧ (k == 10) = false ∧ (k == 11) = false ∧ (k == 12) = false ∧ (k == 13) = false ∧ (k == 14) = false ∧ (k == 15) = false ∧ (k == 16) = false ∧ (k == 17) = false := by
  unfold Kg at h
  refine ⟨?_, ?_, ?_, ?_, ?_, ?_, ?_, ?_, ?_, ?_, ?_, ?_, ?_, ?_, ?_, ?_, ?_⟩ <;> exact beq_eq_false_iff_ne.2 (by omega)
theorem MV {P : Program} {T e : TypeId} (hT : P.underlying T = some (.slice e)) (d : Nat) (a : Addr) (n c : Nat) (w : World) : Sem.run P (Op.equalIn (d + 1) T (.slice (some a) n c) (.slice none 0 0)) w = .ok false w := by
  simp [Op.equalIn, run_underlying hT]
theorem Oc {P : Program} {T e : TypeId} (hT : P.underlying T = some (.slice e)) (a : Addr) (n c : Nat) (w : World) : Sem.run P (binOp .eql T (.slice (some a) n c) (.slice none 0 0)) w = .ok (.bool false) w := by
  have h := MV hT 9999 a n c w
  show Sem.run P (do let b ← Op.equalIn (9999 + 1) T (.slice (some a) n c) (.slice none 0 0); pure (Value.bool b) : Sem Value) w = _
  generalize Op.equalIn (9999 + 1) T (.slice (some a) n c) (.slice none 0 0) = q at *
  simp [h]
theorem M7 {P : Program} {T e : TypeId} (hT : P.underlying T = some (.slice e)) (d : Nat) (w : World) : Sem.run P (Op.equalIn (d + 1) T (.slice none 0 0) (.slice none 0 0)) w = .ok true w := by
  simp [Op.equalIn, run_underlying hT]
theorem MW {P : Program} {T e : TypeId} (hT : P.underlying T = some (.slice e)) (w : World) : Sem.run P (binOp .eql T (.slice none 0 0) (.slice none 0 0)) w = .ok (.bool true) w := by
  have h := M7 hT 9999 w
  show Sem.run P (do let b ← Op.equalIn (9999 + 1) T (.slice none 0 0) (.slice none 0 0); pure (Value.bool b) : Sem Value) w = _
  generalize Op.equalIn (9999 + 1) T (.slice none 0 0) (.slice none 0 0) = q at *
  simp [h]
theorem MX (w : World) (e : TypeId) (l : List Int) (cs : Array Value) (n : Nat) (h : cs.toList = l.map (.int .i64)) (hl : l.length = n) (hn : n ≤ 100) : (w.alloc (.cells cs e)).ownsRow w.heap.size e 1 (.slice (some ⟨w.heap.size, 0, none⟩) n n) n (l.map (.int .i64)) := by
  have hs : cs.size = n * 1 := by rw [← Array.length_toList, h, List.length_map, hl, Nat.mul_one]
  have := World.ownsRow_lit (e := e) w cs n (Nat.le_refl _) (by unfold maxLen; omega) (by omega)
  rw [h] at this
  exact this
set_option maxRecDepth 100000 in
set_option maxHeartbeats 1600000 in
theorem MY (k : Int) (w : World) (hk : Kg k) :
    Calls Tryz.prog 41 #[.int .i64 k] w fun e w' => ∃ a, e = .returned (.slice (some a) (Yc k).length (Yc k).length) ∧ Ints .i64 w' (.slice (some a) (Yc k).length (Yc k).length) (Yc k) ∧ w.grownBy w' none := by
  rcases GU hk with rfl | rfl | rfl | rfl | rfl | rfl | rfl | rfl | rfl | rfl | rfl | rfl | rfl | rfl | rfl | rfl | rfl
  all_goals
    go_enter Tryz.func41, Tryz.ntmps41
    go_wp2
    go_ret
    exact ⟨_, rfl, He (MX w _ _ _ _ rfl rfl (by decide)) (by decide), Wb _ _⟩
set_option maxRecDepth 100000 in
theorem Od (k : Int) (w : World) (hk : ¬ Kg k) :
    Calls Tryz.prog 41 #[.int .i64 k] w fun e w' => e = .returned (.slice none 0 0) ∧ w = w' := by
  obtain ⟨k1, k2, k3, k4, k5, k6, k7, k8, k9, k10, k11, k12, k13, k14, k15, k16, k17⟩ := Ob hk
  clear hk
  go_enter Tryz.func41, Tryz.ntmps41
  go_wp2
  go_ret
  exact ⟨rfl, rfl⟩
end Go.Proofs.YtpnpodbihdiegaaGreat
namespace Go.Proofs.YtpnpodbihdiegaaGreat
open Go.RowKit Go.ChangeShapes Go.WideShapes
structure OpD where
  kind : Int
  name : ByteArray
  other : ByteArray
  names : List ByteArray
  pk : Int
  ps : Int
  pd : Int
  pz : Int
  items : List (ByteArray × Int)
  coins : List Int
  ex : Int
  so : Int
  ha : Int
  ix : Int
  cu : Int
  co : Int
  qk : Int
  qs : ByteArray
  qc : Int
  qn : Int
  qd : Int
  data : List Int
def opV (o : OpD) (vn vi vc vd : Value) : Value :=
  .agg #[.int .i64 o.kind, .string o.name, .string o.other, vn, .int .i64 o.pk, .int .i64 o.ps, .int .i64 o.pd, .int .u64 o.pz, vi, vc, .int .i64 o.ex, .int .i64 o.so, .int .i64 o.ha, .int .i64 o.ix, .int .i64 o.cu, .int .i64 o.co, .int .i64 o.qk, .string o.qs, .int .i64 o.qc, .int .i64 o.qn, .int .i64 o.qd, vd]
def Sl (v : Value) (n : Nat) : Prop := ∃ a cap, v = .slice a n cap
def Ck (o : OpD) (f : Nat) : Bool :=
  match f with
  | 0 => o.name.toList == []
  | 1 => o.other.toList == []
  | 2 => decide (o.names.length = 0)
  | 3 => decide (o.pk = 0 ∧ o.ps = 0 ∧ o.pd = 0 ∧ o.pz = 0)
  | 4 => decide (o.items.length = 0)
  | 5 => decide (o.coins.length = 0)
  | 6 => decide (o.ex = 0)
  | 7 => decide (o.so = 0)
  | 8 => decide (o.ha = 0)
  | 9 => decide (o.ix = 0)
  | 10 => decide (o.cu = 0)
  | 11 => decide (o.co = 0)
  | 12 => decide (o.qk = 0 ∧ o.qs.toList = [] ∧ o.qc = 0 ∧ o.qn = 0 ∧ o.qd = 0)
  | _ => decide (o.data.length = 0)
theorem len0 (n : Nat) : ((n : Int) == 0) = decide (n = 0) := by
  by_cases h : n = 0
  · subst h; rfl
  · rw [decide_eq_false h]; exact beq_eq_false_iff_ne.2 (by omega)
theorem YH {f : Nat} (h : f < 14) : f = 0 ∨ f = 1 ∨ f = 2 ∨ f = 3 ∨ f = 4 ∨ f = 5 ∨ f = 6 ∨ f = 7 ∨ f = 8 ∨ f = 9 ∨ f = 10 ∨ f = 11 ∨ f = 12 ∨ f = 13 := by omega
set_option maxRecDepth 100000 in
set_option maxHeartbeats 1600000 in
theorem MZ (o : OpD) (f : Nat) (vn vi vc vd : Value) (w : World) (hf : f < 14) (h1 : Sl vn o.names.length) (h2 : Sl vi o.items.length) (h3 : Sl vc o.coins.length) (h4 : Sl vd o.data.length) :
    Calls Tryz.prog 43 #[opV o vn vi vc vd, .int .i64 f] w fun e w' => e = .returned (.bool (Ck o f)) ∧ w.grownBy w' none := by
  obtain ⟨an, cn, rfl⟩ := h1
  obtain ⟨ai, ci, rfl⟩ := h2
  obtain ⟨ac, cc, rfl⟩ := h3
  obtain ⟨ad, cd, rfl⟩ := h4
  unfold opV
  obtain ⟨kind, name, other, names, pk, ps, pd, pz, items, coins, ex, so, ha, ix, cu, co, qk, qs, qc, qn, qd, data⟩ := o
  simp only
  rcases YH hf with rfl | rfl | rfl | rfl | rfl | rfl | rfl | rfl | rfl | rfl | rfl | rfl | rfl | rfl
  all_goals
    go_enter Tryz.func43, Tryz.ntmps43
    go_wp2
    all_goals
      go_ret
      refine ⟨ret_b ?_, Wb _ _⟩
      first | rfl | exact len0 _ | (simp [Ck]; done) | (simp_all [Ck]; done) | (simp [Ck]; omega) | (simp_all [Ck]; omega)
def N0 (B : Nat) (v : Value) : Prop := ∀ a n c, v = .slice (some a) n c → B ≤ a.block
theorem Ints.set {k : IntKind} {w : World} {b off n c : Nat} {l : List Int} (h : Ints k w (.slice (some ⟨b, off, none⟩) n c) l) {b' o : Nat} (u : Value) (hne : b ≠ b') : Ints k (w.setCell ⟨b', o, none⟩ u) (.slice (some ⟨b, off, none⟩) n c) l := by
  obtain ⟨a, cap, he, h1, h2, h3, h4⟩ := h
  refine ⟨a, cap, he, h1, h2, h3, ?_⟩
  rcases h4 with h4 | ⟨b2, off2, hb2, hlt, hc⟩
  · exact .inl h4
  · refine .inr ⟨b2, off2, hb2, by simpa using hlt, fun i hi => ?_⟩
    cases he
    cases hb2
    have := hc i hi
    simp [go_sem, hne]
    simpa using this
theorem N0.mono {B B' : Nat} {v : Value} (h : N0 B v) (hb : B' ≤ B) : N0 B' v := fun a n c e => Nat.le_trans hb (h a n c e)
theorem Ints.at {k : IntKind} {w : World} {a : Option Addr} {n cap : Nat} {l : List Int} (h : Ints k w (.slice a n cap) l) (hl : 0 < l.length) : ∃ b off, a = some ⟨b, off, none⟩ ∧ b < w.heap.size ∧ ∀ i, i < l.length → w.cell? ⟨b, off + i, none⟩ = some (.int k (gI l i)) := by
  obtain ⟨a', cap', e, h1, h2, h3, h4⟩ := h
  injection e with e1 e2 e3
  subst e1
  rcases h4 with rfl | h4
  · simp at hl
  · exact h4
theorem M6.own {p q : Nat} {w w1 w2 w3 : World} {r : Option Nat} (h : M6 p q w w1) (g : w1.grownBy w2 none) (g' : w2.grownBy w3 r) (hr : ∀ k, r = some k → w.heap.size ≤ k) : M6 p q w w3 := by
  obtain ⟨h1, h2, h3, h4, h5⟩ := h.grown g
  exact ⟨g'.os.trans h1, g'.tape.trans h2, g'.output.trans h3, Nat.le_trans h4 g'.size, fun k hk hp hq => (g'.block k (Nat.lt_of_lt_of_le hk h4) (fun e => by have := hr k e.symm; omega)).trans (h5 k hk hp hq)⟩
theorem Bv.own {b : Nat} {cs : Array Value} {t : TypeId} {w w' : World} {r : Option Nat} (h : Bv b cs t w) (g : w.grownBy w' r) (hne : r ≠ some b) : Bv b cs t w' := by
  have := g.block b h.lt (fun e => hne e.symm)
  unfold Bv at *
  rw [this]; exact h
end Go.Proofs.YtpnpodbihdiegaaGreat
namespace Go.Proofs.YtpnpodbihdiegaaGreat
open Go.RowKit Go.ChangeShapes Go.WideShapes
def ZS (k : Int) (f : Nat) : Bool := (Yc k).contains (f : Int)
def UJ : List Int → Int
  | [] => 0
  | e :: r => if e ≠ 0 then e else UJ r
def UW (k : Int) (C : Nat → Int) : List Int := (List.range 14).map fun f => if ZS k f = true then C f else 0
def FK (o : OpD) (C : Nat → Int) : Int :=
  if ¬ Kg o.kind then 8 else if UJ (UW o.kind C) ≠ 0 then UJ (UW o.kind C) else if (List.range 14).all (fun f => ZS o.kind f || Ck o f) = true then 0 else 18
theorem Lw {k : Int} (hk : ¬ Kg k) : Yc k = [] := by
  unfold Kg at hk
  unfold Yc
  repeat rw [if_neg (by omega)]
theorem N1 (k : Int) : (Yc k).all (fun x => decide (0 ≤ x ∧ x ≤ 13)) = true := by
  by_cases hk : Kg k
  · rcases GU hk with rfl | rfl | rfl | rfl | rfl | rfl | rfl | rfl | rfl | rfl | rfl | rfl | rfl | rfl | rfl | rfl | rfl <;> decide
  · rw [Lw hk]; rfl
theorem Oe {k : Int} {x : Int} (h : x ∈ Yc k) : 0 ≤ x ∧ x ≤ 13 := of_decide_eq_true (List.all_eq_true.1 (N1 k) x h)
theorem N2 (k : Int) : (Yc k).length ≤ 5 := by
  by_cases hk : Kg k
  · rcases GU hk with rfl | rfl | rfl | rfl | rfl | rfl | rfl | rfl | rfl | rfl | rfl | rfl | rfl | rfl | rfl | rfl | rfl <;> decide
  · rw [Lw hk]; simp
theorem I1 {L : List Int} (h : ∀ i, i < L.length → gI L i = 0) : UJ L = 0 := by
  induction L with
  | nil => rfl
  | cons e r ih =>
    have h0 := h 0 (by simp)
    have h1 : e = 0 := h0
    unfold UJ
    rw [if_neg (by simp [h1])]
    exact ih fun i hi => h (i + 1) (by simp; omega)
theorem Pu {L : List Int} {k : Nat} (hk : k < L.length) (h : ∀ i, i < k → gI L i = 0) (hn : gI L k ≠ 0) : UJ L = gI L k := by
  induction L generalizing k with
  | nil => simp at hk
  | cons e r ih =>
    unfold UJ
    cases k with
    | zero => have h1 : e ≠ 0 := hn; rw [if_pos h1]; rfl
    | succ k =>
      have h1 : e = 0 := h 0 (by omega)
      rw [if_neg (by simp [h1])]
      exact ih (by simpa using hk) (fun i hi => h (i + 1) (by omega)) hn
theorem F3 (k : Int) (C : Nat → Int) : (UW k C).length = 14 := by simp [UW]
theorem Lx (k : Int) (C : Nat → Int) {f : Nat} (h : f < 14) : gI (UW k C) f = if ZS k f = true then C f else 0 := by
  rw [Cl (by rw [F3]; exact h)]; simp [UW]
def Ly (b : Nat) (S : List Int) (w : World) : Prop := ∃ cs : Array Value, Bv b cs 100 w ∧ cs.size = 14 ∧ ∀ f, f < 14 → cs[f]? = some (.bool (S.contains (f : Int)))
theorem Ly.keep {b : Nat} {S : List Int} {w w' : World} (h : Ly b S w) (g : w.grownBy w' none) : Ly b S w' := by
  obtain ⟨cs, h1, h2⟩ := h
  exact ⟨cs, h1.keep g, h2⟩
theorem Ly.cell {b : Nat} {S : List Int} {w : World} (h : Ly b S w) {f : Nat} (hf : f < 14) : w.cell? ⟨b, f, none⟩ = some (.bool (S.contains (f : Int))) := by
  obtain ⟨cs, h1, h2, h3⟩ := h
  exact h1.cell f (h3 f hf)
theorem Ly.froz {b : Nat} {S : List Int} {w : World} (h : Ly b S w) (f : Nat) : w.frozen? ⟨b, f, none⟩ = false := by
  obtain ⟨cs, h1, _⟩ := h
  exact h1.froz f
theorem Ly.set {b : Nat} {S : List Int} {w : World} (h : Ly b S w) {x : Nat} (hx : x < 14) : Ly b (S ++ [(x : Int)]) (w.setCell ⟨b, x, none⟩ (.bool true)) := by
  obtain ⟨cs, h1, h2, h3⟩ := h
  refine ⟨_, h1.set x (.bool true), by simpa using h2, fun f hf => ?_⟩
  rw [Array.getElem?_setIfInBounds]
  by_cases e : x = f
  · subst e
    rw [if_pos rfl, if_pos (by omega)]
    simp
  · rw [if_neg e, h3 f hf]
    have : (S ++ [(x : Int)]).contains (f : Int) = S.contains (f : Int) := by
      simp only [List.contains_eq_mem, List.mem_append, List.mem_singleton]
      congr 1
      rw [eq_iff_iff]
      constructor
      · rintro (h | h)
        · exact h
        · omega
      · exact .inl
    rw [this]
theorem Ly.new (w : World) (cs : Array Value) (h : cs = (Array.replicate 14 (Value.bool false))) : Ly w.heap.size [] (w.alloc (.cells cs 100)) := by
  subst h
  refine ⟨_, Bv.new _ _ _, rfl, fun f hf => ?_⟩
  rw [Array.getElem?_replicate, if_pos hf]; simp
theorem WZ {P : Program} {ops : Array Oper} {rest : List Oper} {o : Oper} {a : Act} {w : World} {Q : Exit → Act → World → Prop} (hw : Region.wanted o (yielded ops a.tmps) = true) (ty : TypeId) (x : Operand) (ho : o.op = .load ty x)
    (g : Nat) (hx : a.eval x = .pointer (some ⟨g, 0, none⟩)) (t : TypeId) (cs : Array Value) (fr : Nat × Nat) (d : TypeDesc) (hg : w.heap[g]? = some (.cells cs t fr))
    (hu : P.underlying ty = some d) (hd : (match d with | .struct _ | .array _ _ => true | _ => false) = true) (hi : (P.info? ty).map (·.size) = some cs.size)
    (h : wpList P ops Q rest (a.put o.dst (.agg cs)) w) : wpList P ops Q (o :: rest) a w :=
  wpList_step fun K hK => by
    rw [if_pos hw]
    exact wp_load_row ty x ho g hx t cs fr d hg hu hd hi (hK _ _ h)
set_option maxRecDepth 100000 in
set_option maxHeartbeats 1600000 in
theorem N3 (cs : Array Value) (kind : Int) (C : Nat → Int) (ZR : Nat → Bool) (w : World) (hsz : cs.size = 22) (h0 : cs[0]? = some (.int .i64 kind)) (hinf : (Tryz.prog.info? 34).map (·.size) = some cs.size)
    (hC : ∀ (f : Nat) (w' : World), f < 14 → ZS kind f = true → w.grownBy w' none → Calls Tryz.prog 42 #[.agg cs, .int .i64 f] w' fun e w'' => e = .returned (.int .i64 (C f)) ∧ w'.grownBy w'' none)
    (hZ : ∀ (f : Nat) (w' : World), f < 14 → Calls Tryz.prog 43 #[.agg cs, .int .i64 f] w' fun e w'' => e = .returned (.bool (ZR f)) ∧ w'.grownBy w'' none) (hk : Kg kind) (VO : Int)
    (hV : VO = if UJ (UW kind C) ≠ 0 then UJ (UW kind C) else if (List.range 14).all (fun f => ZS kind f || ZR f) = true then 0 else 18) :
    Calls Tryz.prog 31 #[.agg cs] w fun e w' => e = .returned (.int .i64 VO) ∧ w.grownBy w' none := by
  have HV := Lib.hid hV
  have hc0 : ∀ h, cs[0]'h = .int .i64 kind := fun h => by
    have := Array.getElem?_eq_getElem h
    rw [h0] at this
    exact (Option.some.inj this).symm
  have CZ := Lib.hid hZ
  have CU := Lib.hid (fun w => MY kind w hk)
  have hlen := N2 kind
  have HIN := Lib.hid (fun x (h : x ∈ Yc kind) => Oe h)
  have HC := Lib.hid hC
  have HM := Lib.hid (fun (f : Nat) (hf : f < 14) => Lx kind C hf)
  have HML := Lib.hid (F3 kind C)
  have hmine : ZS kind = fun f : Nat => (Yc kind).contains (f : Int) := rfl
  have hmk := congrFun hmine
  generalize UW kind C = MC at *
  generalize ZS kind = MB at *
  generalize Yc kind = U at *
  have HMK := Lib.hid hmk
  have henil := fun a n c w => Oc (P := Tryz.prog) Tryz.underlying22 a n c w
  clear hC hk hmine hmk hV hZ
  go_enter Tryz.func31, Tryz.ntmps31
  go_wp2_with fail
  refine (CU.out _).mono ?_
  rintro e w1 ⟨a, rfl, IU, g1⟩
  have c1 : Bv w.heap.size cs 34 w1 := (Bv.new w _ _).keep g1
  have G1 := (Wb _ _).trans' g1
  have hz1 := c1.lt
  clear g1
  go_wp2_with fail
  go_loopw [6, 17] (fun _ i wr => ∃ j : Nat, j ≤ U.length ∧ i = .int .i64 j ∧ Ly w1.heap.size (U.take j) wr ∧ w1.grownBy wr none ∧ w1.heap.size < wr.heap.size) (fun _ i _ => U.length - (intOf i).toNat)
  case atStart => exact ⟨0, by omega, rfl, Ly.new _ _ (by rfl), Wb _ _, by simp⟩
  case round =>
    obtain ⟨j, hj, rfl, hM, g2, hz2⟩ := hrel
    by_cases hlt : j < U.length
    · obtain ⟨b, off, hab, hb, hc⟩ := (IU.grown g2).at (by omega)
      injection hab with hab
      subst hab
      have y := hc j hlt
      have hx := HIN.out _ (If hlt)
      have HS := Lib.hid (Gk hlt)
      obtain ⟨X, hX⟩ : ∃ X : Nat, gI U j = X := ⟨(gI U j).toNat, by omega⟩
      rw [hX] at y hx HS
      have hX14 : (X : Int) < 14 := by omega
      have hX0 : (0 : Int) ≤ X := by omega
      have e1 : (j : Int) < U.length := by omega
      have e2 : (0 : Int) ≤ j := by omega
      have f1 := hM.cell (f := X) (by omega)
      have f2 := hM.froz X
      clear hc hX
      go_wp2
      go_roundw
      case rel =>
        refine ⟨j + 1, by omega, by go_num, ?_, LK g2 _ (Nat.le_refl _), by simpa using hz2⟩
        rw [HS.out]
        exact hM.set (by omega)
      case measure => simp [intOf]; omega
    · obtain rfl : j = U.length := by omega
      rw [List.take_of_length_le (by omega)] at hM
      rename World => w2
      have c2 := c1.keep g2
      have G2 := G1.trans' g2
      clear c1 IU CU G1 g2 hlt hj
      go_wp2_with fail
      go_loopw [7, 8, 24] (fun _ _ i ws => ∃ f : Nat, f ≤ 14 ∧ i = .int .i64 f ∧ Hid (∀ g, g < f → gI MC g = 0) ∧ w2.grownBy ws none) (fun _ _ i _ => 14 - (intOf i).toNat)
      case atStart => exact ⟨0, by omega, rfl, fun g hg => absurd hg (by omega), Ev _⟩
      case round =>
        obtain ⟨f, hf, rfl, hall, g3⟩ := hrel
        have M3 := hM.keep g3
        have c3 := c2.keep g3
        have G3 := G2.trans' g3
        by_cases hlt : f < 14
        · have f1 := M3.cell hlt
          rw [← HMK.out] at f1
          have hmc := HM.out f hlt
          have e1 : (f : Int) < 14 := by omega
          have e2 : (0 : Int) ≤ f := by omega
          have hcc := fun h => HC.out f wr hlt h G3
          have hnx : gI MC f = 0 → Hid (∀ g, g < f + 1 → gI MC g = 0) := fun h g hg => by
            by_cases e : g = f
            · rw [e]; exact h
            · exact hall.out g (by omega)
          have hbad : gI MC f ≠ 0 → Hid (VO = gI MC f) := fun h => by
            have hq := Pu (L := MC) (k := f) (by rw [HML.out]; exact hlt) hall.out h
            show _ = _
            rw [HV.out, hq, if_pos h]
          generalize MB f = mb at *
          cases mb
          · have HS := Lib.hid (hnx (by rw [hmc]; rfl))
            clear hcc hmc hnx hbad
            go_wp2
            go_roundw
            case rel => exact ⟨f + 1, by omega, by go_num, HS.out, g3⟩
            case measure => simp [intOf]; omega
          · rw [if_pos rfl] at hmc
            rw [hmc] at hnx hbad
            have CK := Lib.hid (hcc rfl)
            generalize C f = ce at *
            clear hcc hmc
            by_cases hce : ce = 0
            · have HS := Lib.hid (hnx hce)
              subst hce
              clear hnx hbad
              go_wp2_with (refine wpList_load_row rfl 34 _ rfl _ rfl _ cs (0, 0) _ c3 Tryz.underlying34 rfl hinf ?_)
              go_wp2_with fail
              refine CK.out.mono ?_
              rintro e w5 ⟨rfl, g5⟩
              clear f1
              go_wp2
              go_roundw
              case rel => exact ⟨f + 1, by omega, by go_num, HS.out, g3.trans' g5⟩
              case measure => simp [intOf]; omega
            · have HB := hbad hce
              have hcb : (ce != 0) = true := bne_iff_ne.2 hce
              clear hnx hbad hce
              go_wp2_with (refine wpList_load_row rfl 34 _ rfl _ rfl _ cs (0, 0) _ c3 Tryz.underlying34 rfl hinf ?_)
              go_wp2_with fail
              refine CK.out.mono ?_
              rintro e w5 ⟨rfl, g5⟩
              clear f1
              go_wp2
              go_ret
              rw [HB.out]
              exact ⟨rfl, G3.trans' g5⟩
        · obtain rfl : f = 14 := by omega
          have HZ : Hid (UJ MC = 0) := I1 (fun i hi => hall.out i (by rw [HML.out] at hi; exact hi))
          have hV2 : VO = if (List.range 14).all (fun f => MB f || ZR f) = true then 0 else 18 := by
            rw [HV.out, HZ.out, if_neg (by simp)]
          have HV2 := Lib.hid hV2
          clear hM c2 G2 hall hlt hf HV HM HML HC hV2 HZ
          rename World => w3
          go_wp2_with fail
          go_loopw [9, 38] (fun _ i ws => ∃ f : Nat, f ≤ 14 ∧ i = .int .i64 f ∧ Hid (∀ g, g < f → (MB g || ZR g) = true) ∧ w3.grownBy ws none) (fun _ i _ => 14 - (intOf i).toNat)
          case atStart => exact ⟨0, by omega, rfl, fun g hg => absurd hg (by omega), Ev _⟩
          case round =>
            obtain ⟨f, hf, rfl, hall, g4⟩ := hrel
            have M4 := M3.keep g4
            have c4 := c3.keep g4
            have G4 := G3.trans' g4
            by_cases hlt : f < 14
            · have f1 := M4.cell hlt
              rw [← HMK.out] at f1
              have e1 : (f : Int) < 14 := by omega
              have e2 : (0 : Int) ≤ f := by omega
              have hnx : (MB f || ZR f) = true → Hid (∀ g, g < f + 1 → (MB g || ZR g) = true) := fun h g hg => by
                by_cases e : g = f
                · rw [e]; exact h
                · exact hall.out g (by omega)
              have hbad : (MB f || ZR f) = false → Hid (VO = 18) := fun h => by
                show _ = _
                rw [HV2.out, if_neg]
                intro hh
                have := List.all_eq_true.1 hh f (by simpa using hlt)
                rw [h] at this
                cases this
              have CK := Lib.hid (CZ.out f wr hlt)
              generalize MB f = mb at *
              cases mb
              · generalize ZR f = zf at *
                cases zf
                · have HB := hbad rfl
                  clear hnx hbad
                  go_wp2_with (refine WZ (by first | rfl | simp [Region.wanted, yielded]) 34 _ rfl _ rfl _ cs (0, 0) _ c4 Tryz.underlying34 rfl hinf ?_)
                  go_wp2_with fail
                  refine CK.out.mono ?_
                  rintro e w5 ⟨rfl, g5⟩
                  clear f1
                  go_wp2
                  go_ret
                  rw [HB.out]
                  exact ⟨rfl, G4.trans' g5⟩
                · have HS := Lib.hid (hnx rfl)
                  clear hnx hbad
                  go_wp2_with (refine WZ (by first | rfl | simp [Region.wanted, yielded]) 34 _ rfl _ rfl _ cs (0, 0) _ c4 Tryz.underlying34 rfl hinf ?_)
                  go_wp2_with fail
                  refine CK.out.mono ?_
                  rintro e w5 ⟨rfl, g5⟩
                  clear f1
                  go_wp2
                  go_roundw
                  case rel =>
                    refine ⟨_, _, _, _, _, _, _, _, _, _, _, _, _, _, _, _, ?_, rfl⟩
                    exact ⟨f + 1, by omega, by go_num, HS.out, g4.trans' g5⟩
                  case measure => simp [intOf]; omega
              · have HS := Lib.hid (hnx rfl)
                clear hnx hbad
                go_wp2
                go_roundw
                case rel => exact ⟨f + 1, by omega, by go_num, HS.out, g4⟩
                case measure => simp [intOf]; omega
            · obtain rfl : f = 14 := by omega
              have HB := Lib.hid (show VO = 0 by
                rw [HV2.out, if_pos]
                exact List.all_eq_true.2 fun g hg => hall.out g (by simpa using hg))
              clear c4 M4
              go_wp2
              go_ret
              rw [HB.out]
              exact ⟨rfl, G4⟩
end Go.Proofs.YtpnpodbihdiegaaGreat
namespace Go.Proofs.YtpnpodbihdiegaaGreat
open Go.RowKit Go.ChangeShapes Go.WideShapes
theorem Tryz.infoOp : (Tryz.prog.info? 34).map (·.size) = some 22 := by kernel_rfl
set_option maxRecDepth 100000 in
set_option maxHeartbeats 1600000 in
theorem N4 (cs : Array Value) (kind : Int) (w : World) (hsz : cs.size = 22) (h0 : cs[0]? = some (.int .i64 kind)) (hk : ¬ Kg kind) :
    Calls Tryz.prog 31 #[.agg cs] w fun e w' => e = .returned (.int .i64 8) ∧ w.grownBy w' none := by
  have hc0 : ∀ h, cs[0]'h = .int .i64 kind := fun h => by
    have := Array.getElem?_eq_getElem h
    rw [h0] at this
    exact (Option.some.inj this).symm
  have CU := Lib.hid (fun w => Od kind w hk)
  have henil := fun w => MW (P := Tryz.prog) Tryz.underlying22 w
  go_enter Tryz.func31, Tryz.ntmps31
  go_wp2_with fail
  refine (CU.out _).mono ?_
  rintro e w1 ⟨rfl, rfl⟩
  go_wp2
  go_ret
  exact ⟨rfl, Wb _ _⟩
theorem M8 (o : OpD) (C : Nat → Int) (vn vi vc vd : Value) (w : World)
    (h1 : Sl vn o.names.length) (h2 : Sl vi o.items.length) (h3 : Sl vc o.coins.length) (h4 : Sl vd o.data.length)
    (hC : ∀ (f : Nat) (w' : World), f < 14 → ZS o.kind f = true → w.grownBy w' none → Calls Tryz.prog 42 #[opV o vn vi vc vd, .int .i64 f] w' fun e w'' => e = .returned (.int .i64 (C f)) ∧ w'.grownBy w'' none) :
    Calls Tryz.prog 31 #[opV o vn vi vc vd] w fun e w' => e = .returned (.int .i64 (FK o C)) ∧ w.grownBy w' none := by
  by_cases hk : Kg o.kind
  · refine N3 _ o.kind C (Ck o) w (by rfl) (by rfl) (by exact Tryz.infoOp) hC (fun f w' hf => MZ o f vn vi vc vd w' hf h1 h2 h3 h4) hk _ ?_
    unfold FK
    rw [if_neg (by simp [hk])]
  · unfold FK
    rw [if_pos hk]
    exact N4 _ o.kind w (by rfl) (by rfl) hk
def Uv (a : Qp) : OpD := ⟨a.fm, a.fb6, a.fj, a.fa0, a.fb.fm, a.fb.fg, a.fb.fq, a.fb.fu, a.f8.map (fun x => (x.fa2, x.fa6)), a.fb3, a.fa1, a.fa9, a.fa4, a.fb4, a.fa5, a.f0, a.fv.fm, a.fv.fa2, a.fv.f0, a.fv.fb9, a.fv.fb8, a.fb5⟩
def Xt (a0 : Qp) (r : Int) : Prop :=
  (Lit.int .i64 r).wf = true ∧ ∃ C : Nat → Int, (∀ f : Nat, f < 14 → ZS a0.fm f = true → JS a0 f (C f)) ∧ r = FK (Uv a0) C
theorem Og {w : World} {A : Nat → Prop} {gs : Nat → Option Nat} {g q : Nat} {xs : List PV} {vs : Array Value} (h : Me w A gs g q [.agg xs] vs.toList) : ∃ cs, vs = #[.agg cs] ∧ De w A (fun _ => none) 0 (xs.map .p) cs.toList := by
  suffices ∃ cs, vs.toList = [.agg cs] ∧ De w A (fun _ => none) 0 (xs.map .p) cs.toList by
    obtain ⟨cs, h1, h2⟩ := this
    exact ⟨cs, by have := congrArg List.toArray h1; simpa using this, h2⟩
  revert h
  generalize vs.toList = l
  intro h
  match l, h with
  | [v], h =>
    obtain ⟨cs, rfl, h2⟩ := h.1
    exact ⟨cs, rfl, h2⟩
theorem ZX {w : World} {A : Nat → Prop} {gs : Nat → Option Nat} {n : Nat} {x : RV} {r : List RV} {us : List Value} (h : De w A gs n (x :: r) us) : ∃ u us', us = u :: us' ∧ P1 w A (gs n) x u ∧ De w A gs (n + 1) r us' := by
  cases us with
  | nil => exact h.elim
  | cons u us => exact ⟨u, us, rfl, h.2.1, h.2.2⟩
theorem Am {w : World} {A : Nat → Prop} {go : Option Nat} {x u : Value} (h : P1 w A go (.p (.v x)) u) : u = x := by
  have : RP w A (.v x) u := h
  cases this with | v _ _ => rfl
theorem Lz {w : World} {A : Nat → Prop} {go : Option Nat} {e : Nat} {rows : List (List PV)} {u : Value} (h : P1 w A go (.p (.l e rows)) u) : Sl u rows.length := by
  have : RP w A (.l e rows) u := h
  cases this with | l _ _ a cap c _ _ _ _ _ => exact ⟨a, cap, rfl⟩
set_option maxRecDepth 100000 in
theorem Pv {w : World} {A : Nat → Prop} {a0 : Qp} {cs : Array Value} (hcs : De w A (fun _ => none) 0 ((Zi a0).map .p) cs.toList) : ∃ vn vi vc vd, Value.agg cs = opV (Uv a0) vn vi vc vd ∧ Sl vn (Uv a0).names.length ∧ Sl vi (Uv a0).items.length ∧ Sl vc (Uv a0).coins.length ∧ Sl vd (Uv a0).data.length := by
  simp only [Zi, List.map_cons, List.map_nil] at hcs
  obtain ⟨u0, l0, e0, h0, hcs⟩ := ZX hcs
  have x0 := Am h0
  obtain ⟨u1, l1, e1, h1, hcs⟩ := ZX hcs
  have x1 := Am h1
  obtain ⟨u2, l2, e2, h2, hcs⟩ := ZX hcs
  have x2 := Am h2
  obtain ⟨u3, l3, e3, h3, hcs⟩ := ZX hcs
  have x3 := Lz h3
  obtain ⟨u4, l4, e4, h4, hcs⟩ := ZX hcs
  have x4 := Am h4
  obtain ⟨u5, l5, e5, h5, hcs⟩ := ZX hcs
  have x5 := Am h5
  obtain ⟨u6, l6, e6, h6, hcs⟩ := ZX hcs
  have x6 := Am h6
  obtain ⟨u7, l7, e7, h7, hcs⟩ := ZX hcs
  have x7 := Am h7
  obtain ⟨u8, l8, e8, h8, hcs⟩ := ZX hcs
  have x8 := Lz h8
  obtain ⟨u9, l9, e9, h9, hcs⟩ := ZX hcs
  have x9 := Lz h9
  obtain ⟨u10, l10, e10, h10, hcs⟩ := ZX hcs
  have x10 := Am h10
  obtain ⟨u11, l11, e11, h11, hcs⟩ := ZX hcs
  have x11 := Am h11
  obtain ⟨u12, l12, e12, h12, hcs⟩ := ZX hcs
  have x12 := Am h12
  obtain ⟨u13, l13, e13, h13, hcs⟩ := ZX hcs
  have x13 := Am h13
  obtain ⟨u14, l14, e14, h14, hcs⟩ := ZX hcs
  have x14 := Am h14
  obtain ⟨u15, l15, e15, h15, hcs⟩ := ZX hcs
  have x15 := Am h15
  obtain ⟨u16, l16, e16, h16, hcs⟩ := ZX hcs
  have x16 := Am h16
  obtain ⟨u17, l17, e17, h17, hcs⟩ := ZX hcs
  have x17 := Am h17
  obtain ⟨u18, l18, e18, h18, hcs⟩ := ZX hcs
  have x18 := Am h18
  obtain ⟨u19, l19, e19, h19, hcs⟩ := ZX hcs
  have x19 := Am h19
  obtain ⟨u20, l20, e20, h20, hcs⟩ := ZX hcs
  have x20 := Am h20
  obtain ⟨u21, l21, e21, h21, hcs⟩ := ZX hcs
  have x21 := Lz h21
  have hl : cs.toList = [u0, u1, u2, u3, u4, u5, u6, u7, u8, u9, u10, u11, u12, u13, u14, u15, u16, u17, u18, u19, u20, u21] := by
    have h0 : l21 = [] := by
      cases l21 with
      | nil => rfl
      | cons v l => exact hcs.elim
    rw [e0, e1, e2, e3, e4, e5, e6, e7, e8, e9, e10, e11, e12, e13, e14, e15, e16, e17, e18, e19, e20, e21, h0]
  refine ⟨u3, u8, u9, u21, ?_, by simpa [Uv] using x3, by simpa [Uv] using x8, by simpa [Uv] using x9, by simpa [Uv] using x21⟩
  have hc : cs = #[u0, u1, u2, u3, u4, u5, u6, u7, u8, u9, u10, u11, u12, u13, u14, u15, u16, u17, u18, u19, u20, u21] := by have := congrArg List.toArray hl; simpa using this
  rw [hc, x0, x1, x2, x4, x5, x6, x7, x10, x11, x12, x13, x14, x15, x16, x17, x18, x19, x20]
  rfl
theorem AK {a0 : Qp} {r : Int} (h : Xt a0 r) : Qr Tryz.prog 31 [.agg (Zi a0)] [.c (.p (.v (.int .i64 r)))] [] := by
  obtain ⟨hwf, C, hC, hr⟩ := h
  refine ET (by kernel_rfl) hwf rfl fun A q w vs hA hR => ?_
  obtain ⟨cs, rfl, hcs⟩ := Og hR
  obtain ⟨vn, vi, vc, vd, hv, h1, h2, h3, h4⟩ := Pv hcs
  rw [hv, hr]
  rw [hv] at hR
  refine M8 (Uv a0) C vn vi vc vd w h1 h2 h3 h4 fun f w' hf hm g => ?_
  refine U9 (A := A) (q := 0) (g := w'.heap.size) (CP (hC f hf hm)) rfl (fun x hx => Nat.lt_of_lt_of_le (hA x hx) g.size) ?_
  have h1 := HI (g' := w'.heap.size) (q' := 0) g hA rfl hR
  refine ⟨h1.1, .v _ ?_, trivial⟩
  simp only [Kw, Lit.wf, Bool.and_eq_true, decide_eq_true_eq]
  constructor <;> simp [IntKind.min, IntKind.max, IntKind.bits, IntKind.signed] <;> omega
end Go.Proofs.YtpnpodbihdiegaaGreat
