/- Parts of the proof, laid together. No condition. -/
import Derived.Test.YtpnpodbihdiegaaGreatC4
set_option linter.unusedVariables false
set_option linter.unusedSimpArgs false
namespace Go.Proofs.YtpnpodbihdiegaaGreat
open Go.RowKit
set_option maxRecDepth 100000
set_option maxHeartbeats 4000000
def KU (a0 : Qk) (a1 : Qh) (a2 : (List Int)) (a3 : Int) (Q : (Qk × Int × Int) → Prop) : Prop :=
 ∃ v2, ZS a0 v2 ∧ ((((v2 != 0)) = true → Q ((Qk.mk 0 0 0 ([] : (List (List ByteArray))) false), 0, v2)) ∧ (((v2 != 0)) = false → ∃ v4, Z7 a1 v4 ∧ ((((v4 != 0)) = true → Q ((Qk.mk 0 0 0 ([] : (List (List ByteArray))) false), 0, v4)) ∧ (((v4 != 0)) = false → ∃ v6, WF a3 v6 ∧ (((!(v6)) = true → Q ((Qk.mk 0 0 0 ([] : (List (List ByteArray))) false), 0, 5)) ∧ ((!(v6)) = false → ∃ v7, Jj a0.fp a1.fa8 v7 ∧ ((v7.2 = true → Q ((Qk.mk a0.fg a0.fp a0.fb2 a0.fx true), a3, 0)) ∧ (v7.2 = false → (a0.fx.length * 24 ≤ 140737488355328) ∧ ∃ v10, Y6 a1.fa8 v10 ∧ jn (fun (p11 : (List (List ByteArray))) => ∃ v26, Y7 p11 a0.fg a0.fb2 a2 a3 v26 ∧ Q ((Qk.mk a0.fg v7.1 v26.2.1 v26.1 a0.fb), v26.2.2, 0)) (fun (J11 : (List (List ByteArray)) → Prop) => lp (fun (X12 : (List (List ByteArray)) × (List Int) × Int → Prop) (s12 : (List (List ByteArray)) × (List Int) × Int) => (((decide (s12.2.2 < ((s12.2.1.length : Int)))) = true → jn (fun (p14 : (List (List ByteArray)) × (List Int)) => X12 (p14.1, p14.2, (IntKind.i64.wrap (s12.2.2 + 1)))) (fun (J14 : (List (List ByteArray)) × (List Int) → Prop) => jn (fun (p15 : (List (List ByteArray)) × (List Int)) => ∃ v20, ix p15.2 s12.2.2 v20 ∧ ∃ v21, ix p15.2 s12.2.2 v21 ∧ ∃ v22, ix p15.1 v21 v22 ∧ (v22.length * 16 ≤ 140737488355328) ∧ ((v22.length + ([a1.fa4]).length) * 16 ≤ 140737488355328) ∧ ∃ v25, ix p15.1 v20 v25 ∧ J14 ((List.set p15.1 (Int.toNat v20) (((v22 ++ ([a1.fa4]))))), p15.2)) (fun (J15 : (List (List ByteArray)) × (List Int) → Prop) => lp (fun (X16 : (List (List ByteArray)) × (List Int) → Prop) (s16 : (List (List ByteArray)) × (List Int)) => ∃ v18, ix s16.2 s12.2.2 v18 ∧ (((decide (((s16.1.length : Int)) ≤ v18)) = true → ((s16.1.length + ([([] : (List ByteArray))]).length) * 24 ≤ 140737488355328) ∧ X16 ((s16.1 ++ ([([] : (List ByteArray))])), s16.2)) ∧ ((decide (((s16.1.length : Int)) ≤ v18)) = false → J15 (s16.1, s16.2)))) (s12.1, s12.2.1)))) ∧ ((decide (s12.2.2 < ((s12.2.1.length : Int)))) = false → J11 s12.1))) (a0.fx, v10, 0))))))))))
def JJ (a0 : Qk) (a1 : Qh) (a2 : (List Int)) (a3 : Int) (r : Qk × Int × Int) : Prop := KU a0 a1 a2 a3 fun x => r = x
theorem Cl {a0 : Qk} {a1 : Qh} {a2 : (List Int)} {a3 : Int} {Post : (Qk × Int × Int) → Prop} (h : KU a0 a1 a2 a3 Post) : ∃ r, JJ a0 a1 a2 a3 r ∧ Post r := (show GM (KU a0 a1 a2 a3) (KU a0 a1 a2 a3) from GM.ex fun v2 => GM.cond (GM.ret _) (GM.ex fun v4 => GM.cond (GM.ret _) (GM.ex fun v6 => GM.cond (GM.ret _) (GM.ex fun v7 => GM.cond (GM.ret _) (GM.and (GM.ex fun v10 => GM.join (fun p11 => GM.ex fun v26 => GM.ret _) (fun _ _ J11 => GM.loop (fun X Y Q s12 X12 h => ⟨fun hc => YH (h.1 hc) (fun p14 h => X12 _ h) (fun _ _ J14 h => YH h (fun p15 h => (Exists.elim h fun v20 hv20 => ⟨v20, hv20.1, (Exists.elim hv20.2 fun v21 hv21 => ⟨v21, hv21.1, (Exists.elim hv21.2 fun v22 hv22 => ⟨v22, hv22.1, ⟨hv22.2.1, ⟨hv22.2.2.1, (Exists.elim hv22.2.2.2 fun v25 hv25 => ⟨v25, hv25.1, J14 _ hv25.2⟩)⟩⟩⟩)⟩)⟩)) (fun _ _ J15 h => C4 h (fun _ _ X16 s16 h => (Exists.elim h fun v18 hv18 => ⟨v18, hv18.1, ⟨fun hc => ⟨(hv18.2.1 hc).1, X16 _ ((hv18.2.1 hc).2)⟩, fun hc => J15 _ (hv18.2.2 hc)⟩⟩)))), fun hc => h.2 hc⟩) (fun _ _ X12 s12 => GM.cond (GM.join (fun p14 => X12 _) (fun _ _ J14 => GM.join (fun p15 => GM.ex fun v20 => GM.ex fun v21 => GM.ex fun v22 => GM.and (GM.and (GM.ex fun v25 => J14 _))) (fun _ _ J15 => GM.loop (fun X Y Q s16 X16 h => (Exists.elim h fun v18 hv18 => ⟨v18, hv18.1, ⟨fun hc => ⟨(hv18.2.1 hc).1, X16 _ ((hv18.2.1 hc).2)⟩, fun hc => hv18.2.2 hc⟩⟩)) (fun _ _ X16 s16 => GM.ex fun v18 => GM.cond (GM.and (X16 _)) (J15 _))))) (J11 _))))))))) Post h
theorem Cm {a0 : Qk} {a1 : Qh} {a2 : (List Int)} {a3 : Int} {r : Qk × Int × Int} (h : JJ a0 a1 a2 a3 r) : Qq Tryz.prog 109 [.agg (Z1 a0), .agg (QJ a1), .c (.l 1 (List.map (eI .u8) a2)), .c (.v (.int .i64 a3))] [.agg [.p (.v (.int .i64 r.1.fg)), .p (.v (.int .i64 r.1.fp)), .p (.v (.int .i64 r.1.fb2)), .p (.l 1 (List.map (eL 1 eS) r.1.fx)), .p (.v (.bool r.1.fb))], .c (.p (.v (.int .i64 r.2.1))), .c (.p (.v (.int .i64 r.2.2)))] [] := by
  refine Qn tb Tryz.func109 Z (by kernel_rfl) Z Z (Nat.le_of_ble_eq_true Z) Z ?_;intro E;unfold JJ KU at h;refine Z3 (fun Q hQ => ?_);refine tD Z ?_;refine sk fun L1 hL1 => ?_;refine tk fun L hL => ?_;refine dN 1 Z ?_;obtain ⟨v2, hv2, h⟩ := h;refine u0 (QQ (Xr hv2)) ?_;refine dN 1 Z ?_;refine rt (hL _ ?_);refine tD Z ?_;refine cn h (fun h => ?_) fun h => ?_
  · refine tD Z ?_;obtain rfl := h;exact Qf (hQ _ _ ⟨.inr Z, _, _, _, (.cons (.cella Z Z Z Z Z) (.cons (.p Z) (.cons (.p Z) .nil))), (.cons (.agg (Qr (Qr (Qr (YW (Qr .nil)))))) (.cons (.c (.p _)) (.cons (.c (.p _)) .nil))), Z, Z⟩)
  · refine Qi (hL1 _ ?_);refine sk fun L3 hL3 => ?_;refine tk fun L hL => ?_;refine dN 1 Z ?_;obtain ⟨v4, hv4, h⟩ := h;refine u0 (QQ (ZH hv4)) ?_;refine dN 1 Z ?_;refine rt (hL _ ?_);refine tD Z ?_;refine cn h (fun h => ?_) fun h => ?_
    · refine tD Z ?_;obtain rfl := h;exact Qf (hQ _ _ ⟨.inr Z, _, _, _, (.cons (.cella Z Z Z Z Z) (.cons (.p Z) (.cons (.p Z) .nil))), (.cons (.agg (Qr (Qr (Qr (YW (Qr .nil)))))) (.cons (.c (.p _)) (.cons (.c (.p _)) .nil))), Z, Z⟩)
    · refine Qi (hL3 _ ?_);refine sk fun L5 hL5 => ?_;refine tk fun L hL => ?_;refine dN 1 Z ?_;obtain ⟨v6, hv6, h⟩ := h;refine u0 (QQ (Eu hv6)) ?_;refine dN 1 Z ?_;refine rt (hL _ ?_);refine cn h (fun h => ?_) fun h => ?_
      · refine tD Z ?_;obtain rfl := h;exact Qf (hQ _ _ ⟨.inr Z, _, _, _, (.cons (.cella Z Z Z Z Z) (.cons (.p Z) (.cons (.p Z) .nil))), (.cons (.agg (Qr (Qr (Qr (YW (Qr .nil)))))) (.cons (.c (.p _)) (.cons (.c (.p _)) .nil))), Z, Z⟩)
      · refine Qi (hL5 _ ?_);refine tk fun L hL => ?_;refine dN 4 Z ?_;obtain ⟨v7, hv7, h⟩ := h;refine u0 (QQ (Xw hv7)) ?_;refine dN 5 Z ?_;refine rt (hL _ ?_);refine sk fun L8 hL8 => ?_;refine tD Z ?_;refine cn h (fun h => ?_) fun h => ?_
        · refine tD Z ?_;refine tD Z ?_;obtain rfl := h;exact Qf (hQ _ _ ⟨.inr Z, _, _, _, (.cons (.cella Z Z Z Z Z) (.cons (.p Z) (.cons (.p Z) .nil))), (.cons (.agg (Qr (Qr (Qr (Qr (Qr .nil)))))) (.cons (.c (.p _)) (.cons (.c (.p _)) .nil))), Z, Z⟩)
        · refine Qi (hL8 _ ?_);refine tk fun L hL => ?_;refine dN 2 Z ?_;obtain ⟨hm9, h⟩ := h;refine ul (JR (f := (eL 1 eS)) (L := a0.fx) hm9 Z Z Z Z Z Z Z Z Z Z (V5 QL Z Z Z Z Z)) ?_;refine dN 1 Z ?_;refine rt (hL _ ?_);refine tk fun L hL => ?_;refine dN 2 Z ?_;obtain ⟨v10, hv10, h⟩ := h;refine ul (Zw (FW hv10)) ?_;refine dN 1 Z ?_;refine rt (hL _ ?_);refine Z5 (fun (p11 : (List (List ByteArray))) => (⟨[(2, .c (.p (.l 1 (List.map (eI .u8) a2)))), (3, .c (.p (.v (.int .i64 a3)))), (4, .c (.ptr (4, 0) 0 0)), (8, .c (.ptr (8, 0) 0 0)), (13, .c (.p (.v (.int .i64 v7.1)))), (15, .c (.sl (15, 1000) 0 (List.map (eL 1 eS) p11).length))], [((15, 1000), some (.row 1 (List.map (eL 1 eS) p11) true)), ((4, 0), some (.box (List.map CV.p (Z1 a0)))), ((8, 0), some (.box ([.p (.v (.int .i64 0)), .p (.v (.int .i64 0)), .p (.v (.int .i64 0)), .p (.v (.slice none 0 0)), .p (.v (.bool false))])))]⟩ : St)) h (fun p11 h => ?_) (fun J11 L11 hL11 h => ?_)
          · refine tk fun L hL => ?_;refine dN 7 Z ?_;obtain ⟨v26, hv26, h⟩ := h;refine ul (Y2 (G0 hv26) Z Z (.cons (.c (.fr Z (QG Z))) (.cons (.c (.p _)) (.cons (.c (.p _)) (.cons (.c (.p _)) (.cons (.c (.p _)) .nil)))))) ?_;refine dN 7 Z ?_;refine rt (hL _ ?_);refine tD Z ?_;obtain rfl := h;exact Qf (hQ _ _ ⟨.inr Z, _, _, _, (.cons (.cella Z Z Z Z Z) (.cons (.p Z) (.cons (.p Z) .nil))), (.cons (.agg (Qr (Qr (Qr (Qr (Qr .nil)))))) (.cons (.c (.p _)) (.cons (.c (.p _)) .nil))), Z, Z⟩)
          · refine tD Z ?_;refine Qt ?_;refine Zs (fun (s12 : (List (List ByteArray)) × (List Int) × Int) => (⟨[(2, .c (.p (.l 1 (List.map (eI .u8) a2)))), (3, .c (.p (.v (.int .i64 a3)))), (4, .c (.ptr (4, 0) 0 0)), (5, .c (.ptr (5, 0) 0 0)), (8, .c (.ptr (8, 0) 0 0)), (13, .c (.p (.v (.int .i64 v7.1)))), (15, .c (.sl (15, 1000) 0 (List.map (eL 1 eS) s12.1).length)), (16, .c (.sl (16, 1000) 0 (List.map (eI .i64) s12.2.1).length)), (17, .c (.p (.v (.int .i64 s12.2.2))))], [((15, 1000), some (.row 1 (List.map (eL 1 eS) s12.1) true)), ((16, 1000), some (.row 1 (List.map (eI .i64) s12.2.1) true)), ((4, 0), some (.box (List.map CV.p (Z1 a0)))), ((5, 0), some (.box (List.map CV.p (QJ a1)))), ((8, 0), some (.box ([.p (.v (.int .i64 0)), .p (.v (.int .i64 0)), .p (.v (.int .i64 0)), .p (.v (.slice none 0 0)), .p (.v (.bool false))])))]⟩ : St)) h (QB.nm [2, 3, 4, 5, 8, 13, 15, 16, 17] [((50, 0), (15, 1000)), ((53, 0), (16, 1000)), ((4, 0), (4, 0)), ((5, 0), (5, 0)), ((8, 0), (8, 0))] Z (by kernel_rfl)) (fun X12 L12 hL12 s12 h => ?_);refine sk fun L13 hL13 => ?_;refine tk fun L hL => ?_;refine dN 2 Z ?_;refine u0 Ki ?_;refine dN 1 Z ?_;refine rt (hL _ ?_);refine cn h (fun h => ?_) fun h => ?_
            · refine Qi (hL13 _ ?_);refine Z5 (fun (p14 : (List (List ByteArray)) × (List Int)) => (⟨[(2, .c (.p (.l 1 (List.map (eI .u8) a2)))), (3, .c (.p (.v (.int .i64 a3)))), (4, .c (.ptr (4, 0) 0 0)), (5, .c (.ptr (5, 0) 0 0)), (8, .c (.ptr (8, 0) 0 0)), (13, .c (.p (.v (.int .i64 v7.1)))), (15, .c (.sl (15, 1000) 0 (List.map (eL 1 eS) p14.1).length)), (16, .c (.sl (16, 1000) 0 (List.map (eI .i64) p14.2).length)), (17, .c (.p (.v (.int .i64 s12.2.2))))], [((15, 1000), some (.row 1 (List.map (eL 1 eS) p14.1) true)), ((16, 1000), some (.row 1 (List.map (eI .i64) p14.2) true)), ((4, 0), some (.box (List.map CV.p (Z1 a0)))), ((5, 0), some (.box (List.map CV.p (QJ a1)))), ((8, 0), some (.box ([.p (.v (.int .i64 0)), .p (.v (.int .i64 0)), .p (.v (.int .i64 0)), .p (.v (.slice none 0 0)), .p (.v (.bool false))])))]⟩ : St)) h (fun p14 h => ?_) (fun J14 L14 hL14 h => ?_)
              · refine tE Z (hL12 _ _ h QB.fit)
              · refine Qt ?_;refine Z5 (fun (p15 : (List (List ByteArray)) × (List Int)) => (⟨[(2, .c (.p (.l 1 (List.map (eI .u8) a2)))), (3, .c (.p (.v (.int .i64 a3)))), (4, .c (.ptr (4, 0) 0 0)), (5, .c (.ptr (5, 0) 0 0)), (8, .c (.ptr (8, 0) 0 0)), (13, .c (.p (.v (.int .i64 v7.1)))), (15, .c (.sl (15, 1000) 0 (List.map (eL 1 eS) p15.1).length)), (16, .c (.sl (16, 1000) 0 (List.map (eI .i64) p15.2).length)), (17, .c (.p (.v (.int .i64 s12.2.2))))], [((15, 1000), some (.row 1 (List.map (eL 1 eS) p15.1) true)), ((16, 1000), some (.row 1 (List.map (eI .i64) p15.2) true)), ((4, 0), some (.box (List.map CV.p (Z1 a0)))), ((5, 0), some (.box (List.map CV.p (QJ a1)))), ((8, 0), some (.box ([.p (.v (.int .i64 0)), .p (.v (.int .i64 0)), .p (.v (.int .i64 0)), .p (.v (.slice none 0 0)), .p (.v (.bool false))])))]⟩ : St)) h (fun p15 h => ?_) (fun J15 L15 hL15 h => ?_)
                · refine dl mixed (fun L hL => ?_);refine dN 3 Z ?_;obtain ⟨v20, hv20, h⟩ := h;refine u0 (QU hv20) ?_;refine u0 (QW Z Z (gm hv20.2)) ?_;refine dN 3 Z ?_;obtain ⟨v21, hv21, h⟩ := h;refine u0 (QU hv21) ?_;refine u0 (QW Z Z (gm hv21.2)) ?_;obtain ⟨v22, hv22, h⟩ := h;refine u0 (QU hv22) ?_;refine u0 (QW Z Z (gm hv22.2)) ?_;obtain ⟨hm23, h⟩ := h;refine ul (JR (f := eS) (L := v22) hm23 Z Z Z Z Z Z Z Z Z Z (V5 QL Z Z Z Z Z)) ?_;refine dN 2 Z ?_;refine ul (QD (rows := List.map eS [a1.fa4])) ?_;obtain ⟨hm24, h⟩ := h;refine ul (QK (f := eS) (L := v22) (L' := [a1.fa4]) hm24 Z Z Z Z Z Z Z Z Z Z Z (Z0 QL Z Z Z Z Z Z)) ?_;obtain ⟨v25, hv25, h⟩ := h;refine u0 (QU hv25) ?_;refine AP Z (ZD (b := (86, 0)) Z Z (Kc (x1 := ((v22 ++ ([a1.fa4])))) hv25.2 Z Z Z Z (.cons (.fr Z (QG Z)) .nil))) ?_;refine rd (hL _ (hL14 _ _ h ((QB.slot 15 Z (.n (n' := (List.map (eL 1 eS) (List.set p15.1 (Int.toNat v20) (((v22 ++ ([a1.fa4])))))).length) (by simp))).trans QB.fit)))
                · refine Qt ?_;refine Zs (fun (s16 : (List (List ByteArray)) × (List Int)) => (⟨[(2, .c (.p (.l 1 (List.map (eI .u8) a2)))), (3, .c (.p (.v (.int .i64 a3)))), (4, .c (.ptr (4, 0) 0 0)), (5, .c (.ptr (5, 0) 0 0)), (8, .c (.ptr (8, 0) 0 0)), (13, .c (.p (.v (.int .i64 v7.1)))), (15, .c (.sl (15, 1000) 0 (List.map (eL 1 eS) s16.1).length)), (16, .c (.sl (16, 1000) 0 (List.map (eI .i64) s16.2).length)), (17, .c (.p (.v (.int .i64 s12.2.2))))], [((15, 1000), some (.row 1 (List.map (eL 1 eS) s16.1) true)), ((16, 1000), some (.row 1 (List.map (eI .i64) s16.2) true)), ((4, 0), some (.box (List.map CV.p (Z1 a0)))), ((5, 0), some (.box (List.map CV.p (QJ a1)))), ((8, 0), some (.box ([.p (.v (.int .i64 0)), .p (.v (.int .i64 0)), .p (.v (.int .i64 0)), .p (.v (.slice none 0 0)), .p (.v (.bool false))])))]⟩ : St)) h QB.fit (fun X16 L16 hL16 s16 h => ?_);refine sk fun L17 hL17 => ?_;refine tk fun L hL => ?_;refine dN 1 Z ?_;refine u0 Ki ?_;refine dN 2 Z ?_;obtain ⟨v18, hv18, h⟩ := h;refine u0 (QU hv18) ?_;refine u0 (QW Z Z (gm hv18.2)) ?_;refine dN 1 Z ?_;refine rt (hL _ ?_);refine cn h (fun h => ?_) fun h => ?_
                  · refine Qi (hL17 _ ?_);refine Qt ?_;refine tl fun L hL => ?_;refine dN 1 Z ?_;refine ul (Xn (rows := List.map (eL 1 eS) [([] : (List ByteArray))]) Z Z Z Z Z Z Z Z Z (.cons (.nil _) .nil)) ?_;obtain ⟨hm19, h⟩ := h;refine ul (QK (f := (eL 1 eS)) (L := s16.1) (L' := [([] : (List ByteArray))]) hm19 Z Z Z Z Z Z Z Z Z Z Z (Z0 QL Z Z Z Z Z Z)) ?_;refine dN 1 Z ?_;refine rt (hL _ (hL16 _ _ h (QB.nm [2, 3, 4, 5, 8, 13, 15, 16, 17] [((69, 0), (15, 1000)), ((16, 1000), (16, 1000)), ((4, 0), (4, 0)), ((5, 0), (5, 0)), ((8, 0), (8, 0))] Z (by kernel_rfl))))
                  · refine QT (hL15 _ _ h QB.fit)
            · refine QT (hL11 _ _ h QB.fit)
def Vk (a0 : Qc) (a1 : Qh) (a2 : (List Int)) (a3 : Int) (Q : (Qc × Int × Int) → Prop) : Prop :=
 ∃ v2, Jw a0 v2 ∧ ((((v2 != 0)) = true → Q ((Qc.mk (Q9.mk 0 0 0 0) (Qp.mk 0 0 false) (Qa.mk 0 0 0 ([] : (List Int)) false) (Qj.mk 0 0 ([] : (List Int))) (Qs.mk 0 0 ([] : (List Q1)) false) (Qe.mk 0 0 0 ([] : (List Q1)) false) (Qk.mk 0 0 0 ([] : (List (List ByteArray))) false)), 0, v2)) ∧ (((v2 != 0)) = false → ∃ v4, Z7 a1 v4 ∧ ((((v4 != 0)) = true → Q ((Qc.mk (Q9.mk 0 0 0 0) (Qp.mk 0 0 false) (Qa.mk 0 0 0 ([] : (List Int)) false) (Qj.mk 0 0 ([] : (List Int))) (Qs.mk 0 0 ([] : (List Q1)) false) (Qe.mk 0 0 0 ([] : (List Q1)) false) (Qk.mk 0 0 0 ([] : (List (List ByteArray))) false)), 0, v4)) ∧ (((v4 != 0)) = false → ∃ v6, W5 a3 v6 ∧ (((!(v6)) = true → Q ((Qc.mk (Q9.mk 0 0 0 0) (Qp.mk 0 0 false) (Qa.mk 0 0 0 ([] : (List Int)) false) (Qj.mk 0 0 ([] : (List Int))) (Qs.mk 0 0 ([] : (List Q1)) false) (Qe.mk 0 0 0 ([] : (List Q1)) false) (Qk.mk 0 0 0 ([] : (List (List ByteArray))) false)), 0, 5)) ∧ ((!(v6)) = false → jn (fun (p7 : Int × Int × Int × Bool × Int × Int × Int × (List Int) × Bool × Int × Int × (List Int) × Int × Int × (List Q1) × Bool × Int × Int × Int × (List Q1) × Bool × Int × Int × Int × (List (List ByteArray)) × Bool) => Q ((Qc.mk a0.fa (Qp.mk p7.2.1 p7.2.2.1 p7.2.2.2.1) (Qa.mk p7.2.2.2.2.1 p7.2.2.2.2.2.1 p7.2.2.2.2.2.2.1 p7.2.2.2.2.2.2.2.1 p7.2.2.2.2.2.2.2.2.1) (Qj.mk p7.2.2.2.2.2.2.2.2.2.1 p7.2.2.2.2.2.2.2.2.2.2.1 p7.2.2.2.2.2.2.2.2.2.2.2.1) (Qs.mk p7.2.2.2.2.2.2.2.2.2.2.2.2.1 p7.2.2.2.2.2.2.2.2.2.2.2.2.2.1 p7.2.2.2.2.2.2.2.2.2.2.2.2.2.2.1 p7.2.2.2.2.2.2.2.2.2.2.2.2.2.2.2.1) (Qe.mk p7.2.2.2.2.2.2.2.2.2.2.2.2.2.2.2.2.1 p7.2.2.2.2.2.2.2.2.2.2.2.2.2.2.2.2.2.1 p7.2.2.2.2.2.2.2.2.2.2.2.2.2.2.2.2.2.2.1 p7.2.2.2.2.2.2.2.2.2.2.2.2.2.2.2.2.2.2.2.1 p7.2.2.2.2.2.2.2.2.2.2.2.2.2.2.2.2.2.2.2.2.1) (Qk.mk p7.2.2.2.2.2.2.2.2.2.2.2.2.2.2.2.2.2.2.2.2.2.1 p7.2.2.2.2.2.2.2.2.2.2.2.2.2.2.2.2.2.2.2.2.2.2.1 p7.2.2.2.2.2.2.2.2.2.2.2.2.2.2.2.2.2.2.2.2.2.2.2.1 p7.2.2.2.2.2.2.2.2.2.2.2.2.2.2.2.2.2.2.2.2.2.2.2.2.1 p7.2.2.2.2.2.2.2.2.2.2.2.2.2.2.2.2.2.2.2.2.2.2.2.2.2)), p7.1, 0)) (fun (J7 : Int × Int × Int × Bool × Int × Int × Int × (List Int) × Bool × Int × Int × (List Int) × Int × Int × (List Q1) × Bool × Int × Int × Int × (List Q1) × Bool × Int × Int × Int × (List (List ByteArray)) × Bool → Prop) => ((((a0.fa.fk == 1)) = true → ∃ v8, JH a0.fy a1 v8 ∧ J7 (a3, v8.1.fp, v8.1.f0, v8.1.fb, a0.fc.fu, a0.fc.fg, a0.fc.fw, a0.fc.fa9, a0.fc.fb, a0.f4.f8, a0.f4.fw, a0.f4.f5, a0.fa7.fg, a0.fa7.fp, a0.fa7.fh, a0.fa7.fb, a0.ff.fg, a0.ff.fp, a0.ff.fb6, a0.ff.fh, a0.ff.fb, a0.fq.fg, a0.fq.fp, a0.fq.fb2, a0.fq.fx, a0.fq.fb)) ∧ (((a0.fa.fk == 1)) = false → ((((a0.fa.fk == 2)) = true → ∃ v9, KG a0.fc a1 v9 ∧ J7 (a3, a0.fy.fp, a0.fy.f0, a0.fy.fb, v9.1.fu, v9.1.fg, v9.1.fw, v9.1.fa9, v9.1.fb, a0.f4.f8, a0.f4.fw, a0.f4.f5, a0.fa7.fg, a0.fa7.fp, a0.fa7.fh, a0.fa7.fb, a0.ff.fg, a0.ff.fp, a0.ff.fb6, a0.ff.fh, a0.ff.fb, a0.fq.fg, a0.fq.fp, a0.fq.fb2, a0.fq.fx, a0.fq.fb)) ∧ (((a0.fa.fk == 2)) = false → ((((a0.fa.fk == 3)) = true → ∃ v10, Jm a0.f4 a1 v10 ∧ J7 (a3, a0.fy.fp, a0.fy.f0, a0.fy.fb, a0.fc.fu, a0.fc.fg, a0.fc.fw, a0.fc.fa9, a0.fc.fb, v10.1.f8, v10.1.fw, v10.1.f5, a0.fa7.fg, a0.fa7.fp, a0.fa7.fh, a0.fa7.fb, a0.ff.fg, a0.ff.fp, a0.ff.fb6, a0.ff.fh, a0.ff.fb, a0.fq.fg, a0.fq.fp, a0.fq.fb2, a0.fq.fx, a0.fq.fb)) ∧ (((a0.fa.fk == 3)) = false → ((((a0.fa.fk == 4)) = true → ∃ v11, Vj a0.fa7 a1 v11 ∧ J7 (a3, a0.fy.fp, a0.fy.f0, a0.fy.fb, a0.fc.fu, a0.fc.fg, a0.fc.fw, a0.fc.fa9, a0.fc.fb, a0.f4.f8, a0.f4.fw, a0.f4.f5, v11.1.fg, v11.1.fp, v11.1.fh, v11.1.fb, a0.ff.fg, a0.ff.fp, a0.ff.fb6, a0.ff.fh, a0.ff.fb, a0.fq.fg, a0.fq.fp, a0.fq.fb2, a0.fq.fx, a0.fq.fb)) ∧ (((a0.fa.fk == 4)) = false → ((((a0.fa.fk == 5)) = true → ∃ v12, KH a0.ff a1 v12 ∧ J7 (a3, a0.fy.fp, a0.fy.f0, a0.fy.fb, a0.fc.fu, a0.fc.fg, a0.fc.fw, a0.fc.fa9, a0.fc.fb, a0.f4.f8, a0.f4.fw, a0.f4.f5, a0.fa7.fg, a0.fa7.fp, a0.fa7.fh, a0.fa7.fb, v12.1.fg, v12.1.fp, v12.1.fb6, v12.1.fh, v12.1.fb, a0.fq.fg, a0.fq.fp, a0.fq.fb2, a0.fq.fx, a0.fq.fb)) ∧ (((a0.fa.fk == 5)) = false → ∃ v13, JJ a0.fq a1 a2 a3 v13 ∧ J7 (v13.2.1, a0.fy.fp, a0.fy.f0, a0.fy.fb, a0.fc.fu, a0.fc.fg, a0.fc.fw, a0.fc.fa9, a0.fc.fb, a0.f4.f8, a0.f4.fw, a0.f4.f5, a0.fa7.fg, a0.fa7.fp, a0.fa7.fh, a0.fa7.fb, a0.ff.fg, a0.ff.fp, a0.ff.fb6, a0.ff.fh, a0.ff.fb, v13.1.fg, v13.1.fp, v13.1.fb2, v13.1.fx, v13.1.fb))))))))))))))))))
def Xx (a0 : Qc) (a1 : Qh) (a2 : (List Int)) (a3 : Int) (r : Qc × Int × Int) : Prop := Vk a0 a1 a2 a3 fun x => r = x
theorem Fj {a0 : Qc} {a1 : Qh} {a2 : (List Int)} {a3 : Int} {Post : (Qc × Int × Int) → Prop} (h : Vk a0 a1 a2 a3 Post) : ∃ r, Xx a0 a1 a2 a3 r ∧ Post r := (show GM (Vk a0 a1 a2 a3) (Vk a0 a1 a2 a3) from GM.ex fun v2 => GM.cond (GM.ret _) (GM.ex fun v4 => GM.cond (GM.ret _) (GM.ex fun v6 => GM.cond (GM.ret _) (GM.join (fun p7 => GM.ret _) (fun _ _ J7 => GM.cond (GM.ex fun v8 => J7 _) (GM.cond (GM.ex fun v9 => J7 _) (GM.cond (GM.ex fun v10 => J7 _) (GM.cond (GM.ex fun v11 => J7 _) (GM.cond (GM.ex fun v12 => J7 _) (GM.ex fun v13 => J7 _)))))))))) Post h
theorem Fl {a0 : Qc} {a1 : Qh} {a2 : (List Int)} {a3 : Int} {r : Qc × Int × Int} (h : Xx a0 a1 a2 a3 r) : Qq Tryz.prog 67 [.agg (KY a0), .agg (QJ a1), .c (.l 1 (List.map (eI .u8) a2)), .c (.v (.int .i64 a3))] [.agg [.p (.v (.int .i64 r.1.fa.fk)), .p (.v (.int .i64 r.1.fa.fg)), .p (.v (.int .i64 r.1.fa.fu)), .p (.v (.int .u64 r.1.fa.fw)), .p (.v (.int .i64 r.1.fy.fp)), .p (.v (.int .i64 r.1.fy.f0)), .p (.v (.bool r.1.fy.fb)), .p (.v (.int .i64 r.1.fc.fu)), .p (.v (.int .i64 r.1.fc.fg)), .p (.v (.int .u64 r.1.fc.fw)), .p (.l 1 (List.map (eI .i64) r.1.fc.fa9)), .p (.v (.bool r.1.fc.fb)), .p (.v (.int .i64 r.1.f4.f8)), .p (.v (.int .u64 r.1.f4.fw)), .p (.l 1 (List.map (eI .i64) r.1.f4.f5)), .p (.v (.int .i64 r.1.fa7.fg)), .p (.v (.int .i64 r.1.fa7.fp)), .p (.l 3 (List.map Q8 r.1.fa7.fh)), .p (.v (.bool r.1.fa7.fb)), .p (.v (.int .i64 r.1.ff.fg)), .p (.v (.int .i64 r.1.ff.fp)), .p (.v (.int .i64 r.1.ff.fb6)), .p (.l 3 (List.map Q8 r.1.ff.fh)), .p (.v (.bool r.1.ff.fb)), .p (.v (.int .i64 r.1.fq.fg)), .p (.v (.int .i64 r.1.fq.fp)), .p (.v (.int .i64 r.1.fq.fb2)), .p (.l 1 (List.map (eL 1 eS) r.1.fq.fx)), .p (.v (.bool r.1.fq.fb))], .c (.p (.v (.int .i64 r.2.1))), .c (.p (.v (.int .i64 r.2.2)))] [] := by
  refine Qn tb Tryz.func67 Z (by kernel_rfl) Z Z (Nat.le_of_ble_eq_true Z) Z ?_;intro E;unfold Xx Vk at h;refine Z3 (fun Q hQ => ?_);refine tD Z ?_;refine sk fun L1 hL1 => ?_;refine tk fun L hL => ?_;refine dN 1 Z ?_;obtain ⟨v2, hv2, h⟩ := h;refine u0 (QQ (UH hv2)) ?_;refine dN 1 Z ?_;refine rt (hL _ ?_);refine tD Z ?_;refine cn h (fun h => ?_) fun h => ?_
  · refine tD Z ?_;obtain rfl := h;exact Qf (hQ _ _ ⟨.inr Z, _, _, _, (.cons (.cella Z Z Z Z Z) (.cons (.p Z) (.cons (.p Z) .nil))), (.cons (.agg (Qr (Qr (Qr (Qr (Qr (Qr (Qr (Qr (Qr (Qr (YW (Qr (Qr (Qr (YW (Qr (Qr (YW (Qr (Qr (Qr (Qr (YW (Qr (Qr (Qr (Qr (YW (Qr .nil)))))))))))))))))))))))))))))) (.cons (.c (.p _)) (.cons (.c (.p _)) .nil))), Z, Z⟩)
  · refine Qi (hL1 _ ?_);refine sk fun L3 hL3 => ?_;refine tk fun L hL => ?_;refine dN 1 Z ?_;obtain ⟨v4, hv4, h⟩ := h;refine u0 (QQ (ZH hv4)) ?_;refine dN 1 Z ?_;refine rt (hL _ ?_);refine tD Z ?_;refine cn h (fun h => ?_) fun h => ?_
    · refine tD Z ?_;obtain rfl := h;exact Qf (hQ _ _ ⟨.inr Z, _, _, _, (.cons (.cella Z Z Z Z Z) (.cons (.p Z) (.cons (.p Z) .nil))), (.cons (.agg (Qr (Qr (Qr (Qr (Qr (Qr (Qr (Qr (Qr (Qr (YW (Qr (Qr (Qr (YW (Qr (Qr (YW (Qr (Qr (Qr (Qr (YW (Qr (Qr (Qr (Qr (YW (Qr .nil)))))))))))))))))))))))))))))) (.cons (.c (.p _)) (.cons (.c (.p _)) .nil))), Z, Z⟩)
    · refine Qi (hL3 _ ?_);refine sk fun L5 hL5 => ?_;refine tk fun L hL => ?_;refine dN 1 Z ?_;obtain ⟨v6, hv6, h⟩ := h;refine u0 (QQ (DK hv6)) ?_;refine dN 1 Z ?_;refine rt (hL _ ?_);refine cn h (fun h => ?_) fun h => ?_
      · refine tD Z ?_;obtain rfl := h;exact Qf (hQ _ _ ⟨.inr Z, _, _, _, (.cons (.cella Z Z Z Z Z) (.cons (.p Z) (.cons (.p Z) .nil))), (.cons (.agg (Qr (Qr (Qr (Qr (Qr (Qr (Qr (Qr (Qr (Qr (YW (Qr (Qr (Qr (YW (Qr (Qr (YW (Qr (Qr (Qr (Qr (YW (Qr (Qr (Qr (Qr (YW (Qr .nil)))))))))))))))))))))))))))))) (.cons (.c (.p _)) (.cons (.c (.p _)) .nil))), Z, Z⟩)
      · refine Qi (hL5 _ ?_);refine tD Z ?_;refine Z5 (fun (p7 : Int × Int × Int × Bool × Int × Int × Int × (List Int) × Bool × Int × Int × (List Int) × Int × Int × (List Q1) × Bool × Int × Int × Int × (List Q1) × Bool × Int × Int × Int × (List (List ByteArray)) × Bool) => (⟨[(4, .c (.ptr (4, 0) 0 0)), (8, .c (.ptr (8, 0) 0 0)), (13, .c (.p (.v (.int .i64 p7.1))))], [((4, 0), some (.box ([.p (.v (.int .i64 a0.fa.fk)), .p (.v (.int .i64 a0.fa.fg)), .p (.v (.int .i64 a0.fa.fu)), .p (.v (.int .u64 a0.fa.fw)), .p (.v (.int .i64 p7.2.1)), .p (.v (.int .i64 p7.2.2.1)), .p (.v (.bool p7.2.2.2.1)), .p (.v (.int .i64 p7.2.2.2.2.1)), .p (.v (.int .i64 p7.2.2.2.2.2.1)), .p (.v (.int .u64 p7.2.2.2.2.2.2.1)), .p (.l 1 (List.map (eI .i64) p7.2.2.2.2.2.2.2.1)), .p (.v (.bool p7.2.2.2.2.2.2.2.2.1)), .p (.v (.int .i64 p7.2.2.2.2.2.2.2.2.2.1)), .p (.v (.int .u64 p7.2.2.2.2.2.2.2.2.2.2.1)), .p (.l 1 (List.map (eI .i64) p7.2.2.2.2.2.2.2.2.2.2.2.1)), .p (.v (.int .i64 p7.2.2.2.2.2.2.2.2.2.2.2.2.1)), .p (.v (.int .i64 p7.2.2.2.2.2.2.2.2.2.2.2.2.2.1)), .p (.l 3 (List.map Q8 p7.2.2.2.2.2.2.2.2.2.2.2.2.2.2.1)), .p (.v (.bool p7.2.2.2.2.2.2.2.2.2.2.2.2.2.2.2.1)), .p (.v (.int .i64 p7.2.2.2.2.2.2.2.2.2.2.2.2.2.2.2.2.1)), .p (.v (.int .i64 p7.2.2.2.2.2.2.2.2.2.2.2.2.2.2.2.2.2.1)), .p (.v (.int .i64 p7.2.2.2.2.2.2.2.2.2.2.2.2.2.2.2.2.2.2.1)), .p (.l 3 (List.map Q8 p7.2.2.2.2.2.2.2.2.2.2.2.2.2.2.2.2.2.2.2.1)), .p (.v (.bool p7.2.2.2.2.2.2.2.2.2.2.2.2.2.2.2.2.2.2.2.2.1)), .p (.v (.int .i64 p7.2.2.2.2.2.2.2.2.2.2.2.2.2.2.2.2.2.2.2.2.2.1)), .p (.v (.int .i64 p7.2.2.2.2.2.2.2.2.2.2.2.2.2.2.2.2.2.2.2.2.2.2.1)), .p (.v (.int .i64 p7.2.2.2.2.2.2.2.2.2.2.2.2.2.2.2.2.2.2.2.2.2.2.2.1)), .p (.l 1 (List.map (eL 1 eS) p7.2.2.2.2.2.2.2.2.2.2.2.2.2.2.2.2.2.2.2.2.2.2.2.2.1)), .p (.v (.bool p7.2.2.2.2.2.2.2.2.2.2.2.2.2.2.2.2.2.2.2.2.2.2.2.2.2))]))), ((8, 0), some (.box ([.p (.v (.int .i64 0)), .p (.v (.int .i64 0)), .p (.v (.int .i64 0)), .p (.v (.int .u64 0)), .p (.v (.int .i64 0)), .p (.v (.int .i64 0)), .p (.v (.bool false)), .p (.v (.int .i64 0)), .p (.v (.int .i64 0)), .p (.v (.int .u64 0)), .p (.v (.slice none 0 0)), .p (.v (.bool false)), .p (.v (.int .i64 0)), .p (.v (.int .u64 0)), .p (.v (.slice none 0 0)), .p (.v (.int .i64 0)), .p (.v (.int .i64 0)), .p (.v (.slice none 0 0)), .p (.v (.bool false)), .p (.v (.int .i64 0)), .p (.v (.int .i64 0)), .p (.v (.int .i64 0)), .p (.v (.slice none 0 0)), .p (.v (.bool false)), .p (.v (.int .i64 0)), .p (.v (.int .i64 0)), .p (.v (.int .i64 0)), .p (.v (.slice none 0 0)), .p (.v (.bool false))])))]⟩ : St)) h (fun p7 h => ?_) (fun J7 L7 hL7 h => ?_)
        · refine tD Z ?_;obtain rfl := h;exact Qf (hQ _ _ ⟨.inr Z, _, _, _, (.cons (.cella Z Z Z Z Z) (.cons (.p Z) (.cons (.p Z) .nil))), (.cons (.agg (Qr (Qr (Qr (Qr (Qr (Qr (Qr (Qr (Qr (Qr (Qr (Qr (Qr (Qr (Qr (Qr (Qr (Qr (Qr (Qr (Qr (Qr (Qr (Qr (Qr (Qr (Qr (Qr (Qr .nil)))))))))))))))))))))))))))))) (.cons (.c (.p _)) (.cons (.c (.p _)) .nil))), Z, Z⟩)
        · refine tD Z ?_;refine Qt ?_;refine tD Z ?_;refine cn h (fun h => ?_) fun h => ?_
          · refine tl fun L hL => ?_;refine dN 3 Z ?_;obtain ⟨v8, hv8, h⟩ := h;refine u0 (QQ (Cj hv8)) ?_;refine dN 5 Z ?_;refine rt (hL _ (hL7 _ _ h QB.fit))
          · refine tD Z ?_;refine cn h (fun h => ?_) fun h => ?_
            · refine tl fun L hL => ?_;refine dN 3 Z ?_;obtain ⟨v9, hv9, h⟩ := h;refine ul (Zw (Av hv9)) ?_;refine dN 5 Z ?_;refine rt (hL _ (hL7 _ _ h ((QB.frz (61, 3)).trans ((QB.cells (4, 0) Z (.c (.c (.c (.c (.c (.c (.c (.c (.c (.c (.cons (.fr (b := (61, 3)) Z (QG Z)) (.c (.c (.c (.c (.c (.c (.c (.c (.c (.c (.c (.c (.c (.c (.c (.c (.c (.c .nil)))))))))))))))))))))))))))))).trans QB.fit))))
            · refine tD Z ?_;refine cn h (fun h => ?_) fun h => ?_
              · refine tl fun L hL => ?_;refine dN 3 Z ?_;obtain ⟨v10, hv10, h⟩ := h;refine ul (Zw (Bs hv10)) ?_;refine dN 5 Z ?_;refine rt (hL _ (hL7 _ _ h ((QB.frz (71, 2)).trans ((QB.cells (4, 0) Z (.c (.c (.c (.c (.c (.c (.c (.c (.c (.c (.c (.c (.c (.c (.cons (.fr (b := (71, 2)) Z (QG Z)) (.c (.c (.c (.c (.c (.c (.c (.c (.c (.c (.c (.c (.c (.c .nil)))))))))))))))))))))))))))))).trans QB.fit))))
              · refine tD Z ?_;refine cn h (fun h => ?_) fun h => ?_
                · refine tl fun L hL => ?_;refine dN 3 Z ?_;obtain ⟨v11, hv11, h⟩ := h;refine ul (Zw (DN hv11)) ?_;refine dN 5 Z ?_;refine rt (hL _ (hL7 _ _ h ((QB.frz (81, 2)).trans ((QB.cells (4, 0) Z (.c (.c (.c (.c (.c (.c (.c (.c (.c (.c (.c (.c (.c (.c (.c (.c (.c (.cons (.fr (b := (81, 2)) Z (QG Z)) (.c (.c (.c (.c (.c (.c (.c (.c (.c (.c (.c .nil)))))))))))))))))))))))))))))).trans QB.fit))))
                · refine tD Z ?_;refine cn h (fun h => ?_) fun h => ?_
                  · refine tl fun L hL => ?_;refine dN 3 Z ?_;obtain ⟨v12, hv12, h⟩ := h;refine ul (Zw (Ax hv12)) ?_;refine dN 5 Z ?_;refine rt (hL _ (hL7 _ _ h ((QB.frz (91, 3)).trans ((QB.cells (4, 0) Z (.c (.c (.c (.c (.c (.c (.c (.c (.c (.c (.c (.c (.c (.c (.c (.c (.c (.c (.c (.c (.c (.c (.cons (.fr (b := (91, 3)) Z (QG Z)) (.c (.c (.c (.c (.c (.c .nil)))))))))))))))))))))))))))))).trans QB.fit))))
                  · refine tl fun L hL => ?_;refine dN 5 Z ?_;obtain ⟨v13, hv13, h⟩ := h;refine u0 (QQ (Cm hv13)) ?_;refine dN 7 Z ?_;refine rt (hL _ (hL7 _ _ h QB.fit))
def YC (a0 : Q9) (a1 : (List Qh)) (a2 : (List Int)) (Q : Qc → Prop) : Prop :=
 ∃ v1, Ww a0 v1 ∧ jn (fun (p2 : Int × Int × Int × Int × Int × Int × Bool × Int × Int × Int × (List Int) × Bool × Int × Int × (List Int) × Int × Int × (List Q1) × Bool × Int × Int × Int × (List Q1) × Bool × Int × Int × Int × (List (List ByteArray)) × Bool) => Q ((Qc.mk (Q9.mk p2.1 p2.2.1 p2.2.2.1 p2.2.2.2.1) (Qp.mk p2.2.2.2.2.1 p2.2.2.2.2.2.1 p2.2.2.2.2.2.2.1) (Qa.mk p2.2.2.2.2.2.2.2.1 p2.2.2.2.2.2.2.2.2.1 p2.2.2.2.2.2.2.2.2.2.1 p2.2.2.2.2.2.2.2.2.2.2.1 p2.2.2.2.2.2.2.2.2.2.2.2.1) (Qj.mk p2.2.2.2.2.2.2.2.2.2.2.2.2.1 p2.2.2.2.2.2.2.2.2.2.2.2.2.2.1 p2.2.2.2.2.2.2.2.2.2.2.2.2.2.2.1) (Qs.mk p2.2.2.2.2.2.2.2.2.2.2.2.2.2.2.2.1 p2.2.2.2.2.2.2.2.2.2.2.2.2.2.2.2.2.1 p2.2.2.2.2.2.2.2.2.2.2.2.2.2.2.2.2.2.1 p2.2.2.2.2.2.2.2.2.2.2.2.2.2.2.2.2.2.2.1) (Qe.mk p2.2.2.2.2.2.2.2.2.2.2.2.2.2.2.2.2.2.2.2.1 p2.2.2.2.2.2.2.2.2.2.2.2.2.2.2.2.2.2.2.2.2.1 p2.2.2.2.2.2.2.2.2.2.2.2.2.2.2.2.2.2.2.2.2.2.1 p2.2.2.2.2.2.2.2.2.2.2.2.2.2.2.2.2.2.2.2.2.2.2.1 p2.2.2.2.2.2.2.2.2.2.2.2.2.2.2.2.2.2.2.2.2.2.2.2.1) (Qk.mk p2.2.2.2.2.2.2.2.2.2.2.2.2.2.2.2.2.2.2.2.2.2.2.2.2.1 p2.2.2.2.2.2.2.2.2.2.2.2.2.2.2.2.2.2.2.2.2.2.2.2.2.2.1 p2.2.2.2.2.2.2.2.2.2.2.2.2.2.2.2.2.2.2.2.2.2.2.2.2.2.2.1 p2.2.2.2.2.2.2.2.2.2.2.2.2.2.2.2.2.2.2.2.2.2.2.2.2.2.2.2.1 p2.2.2.2.2.2.2.2.2.2.2.2.2.2.2.2.2.2.2.2.2.2.2.2.2.2.2.2.2)))) (fun (J2 : Int × Int × Int × Int × Int × Int × Bool × Int × Int × Int × (List Int) × Bool × Int × Int × (List Int) × Int × Int × (List Q1) × Bool × Int × Int × Int × (List Q1) × Bool × Int × Int × Int × (List (List ByteArray)) × Bool → Prop) => lp (fun (X3 : Int × Int × Int × Int × Int × Int × Int × Int × Bool × Int × Int × Int × (List Int) × Bool × Int × Int × (List Int) × Int × Int × (List Q1) × Bool × Int × Int × Int × (List Q1) × Bool × Int × Int × Int × (List (List ByteArray)) × Bool → Prop) (s3 : Int × Int × Int × Int × Int × Int × Int × Int × Bool × Int × Int × Int × (List Int) × Bool × Int × Int × (List Int) × Int × Int × (List Q1) × Bool × Int × Int × Int × (List Q1) × Bool × Int × Int × Int × (List (List ByteArray)) × Bool) => (((decide (s3.2.1 < ((a1.length : Int)))) = true → ∃ v6, ix a1 s3.2.1 v6 ∧ ∃ v7, Xx (Qc.mk (Q9.mk s3.2.2.1 s3.2.2.2.1 s3.2.2.2.2.1 s3.2.2.2.2.2.1) (Qp.mk s3.2.2.2.2.2.2.1 s3.2.2.2.2.2.2.2.1 s3.2.2.2.2.2.2.2.2.1) (Qa.mk s3.2.2.2.2.2.2.2.2.2.1 s3.2.2.2.2.2.2.2.2.2.2.1 s3.2.2.2.2.2.2.2.2.2.2.2.1 s3.2.2.2.2.2.2.2.2.2.2.2.2.1 s3.2.2.2.2.2.2.2.2.2.2.2.2.2.1) (Qj.mk s3.2.2.2.2.2.2.2.2.2.2.2.2.2.2.1 s3.2.2.2.2.2.2.2.2.2.2.2.2.2.2.2.1 s3.2.2.2.2.2.2.2.2.2.2.2.2.2.2.2.2.1) (Qs.mk s3.2.2.2.2.2.2.2.2.2.2.2.2.2.2.2.2.2.1 s3.2.2.2.2.2.2.2.2.2.2.2.2.2.2.2.2.2.2.1 s3.2.2.2.2.2.2.2.2.2.2.2.2.2.2.2.2.2.2.2.1 s3.2.2.2.2.2.2.2.2.2.2.2.2.2.2.2.2.2.2.2.2.1) (Qe.mk s3.2.2.2.2.2.2.2.2.2.2.2.2.2.2.2.2.2.2.2.2.2.1 s3.2.2.2.2.2.2.2.2.2.2.2.2.2.2.2.2.2.2.2.2.2.2.1 s3.2.2.2.2.2.2.2.2.2.2.2.2.2.2.2.2.2.2.2.2.2.2.2.1 s3.2.2.2.2.2.2.2.2.2.2.2.2.2.2.2.2.2.2.2.2.2.2.2.2.1 s3.2.2.2.2.2.2.2.2.2.2.2.2.2.2.2.2.2.2.2.2.2.2.2.2.2.1) (Qk.mk s3.2.2.2.2.2.2.2.2.2.2.2.2.2.2.2.2.2.2.2.2.2.2.2.2.2.2.1 s3.2.2.2.2.2.2.2.2.2.2.2.2.2.2.2.2.2.2.2.2.2.2.2.2.2.2.2.1 s3.2.2.2.2.2.2.2.2.2.2.2.2.2.2.2.2.2.2.2.2.2.2.2.2.2.2.2.2.1 s3.2.2.2.2.2.2.2.2.2.2.2.2.2.2.2.2.2.2.2.2.2.2.2.2.2.2.2.2.2.1 s3.2.2.2.2.2.2.2.2.2.2.2.2.2.2.2.2.2.2.2.2.2.2.2.2.2.2.2.2.2.2)) v6 a2 s3.1 v7 ∧ X3 (v7.2.1, (IntKind.i64.wrap (s3.2.1 + 1)), v7.1.fa.fk, v7.1.fa.fg, v7.1.fa.fu, v7.1.fa.fw, v7.1.fy.fp, v7.1.fy.f0, v7.1.fy.fb, v7.1.fc.fu, v7.1.fc.fg, v7.1.fc.fw, v7.1.fc.fa9, v7.1.fc.fb, v7.1.f4.f8, v7.1.f4.fw, v7.1.f4.f5, v7.1.fa7.fg, v7.1.fa7.fp, v7.1.fa7.fh, v7.1.fa7.fb, v7.1.ff.fg, v7.1.ff.fp, v7.1.ff.fb6, v7.1.ff.fh, v7.1.ff.fb, v7.1.fq.fg, v7.1.fq.fp, v7.1.fq.fb2, v7.1.fq.fx, v7.1.fq.fb)) ∧ ((decide (s3.2.1 < ((a1.length : Int)))) = false → J2 (s3.2.2.1, s3.2.2.2.1, s3.2.2.2.2.1, s3.2.2.2.2.2.1, s3.2.2.2.2.2.2.1, s3.2.2.2.2.2.2.2.1, s3.2.2.2.2.2.2.2.2.1, s3.2.2.2.2.2.2.2.2.2.1, s3.2.2.2.2.2.2.2.2.2.2.1, s3.2.2.2.2.2.2.2.2.2.2.2.1, s3.2.2.2.2.2.2.2.2.2.2.2.2.1, s3.2.2.2.2.2.2.2.2.2.2.2.2.2.1, s3.2.2.2.2.2.2.2.2.2.2.2.2.2.2.1, s3.2.2.2.2.2.2.2.2.2.2.2.2.2.2.2.1, s3.2.2.2.2.2.2.2.2.2.2.2.2.2.2.2.2.1, s3.2.2.2.2.2.2.2.2.2.2.2.2.2.2.2.2.2.1, s3.2.2.2.2.2.2.2.2.2.2.2.2.2.2.2.2.2.2.1, s3.2.2.2.2.2.2.2.2.2.2.2.2.2.2.2.2.2.2.2.1, s3.2.2.2.2.2.2.2.2.2.2.2.2.2.2.2.2.2.2.2.2.1, s3.2.2.2.2.2.2.2.2.2.2.2.2.2.2.2.2.2.2.2.2.2.1, s3.2.2.2.2.2.2.2.2.2.2.2.2.2.2.2.2.2.2.2.2.2.2.1, s3.2.2.2.2.2.2.2.2.2.2.2.2.2.2.2.2.2.2.2.2.2.2.2.1, s3.2.2.2.2.2.2.2.2.2.2.2.2.2.2.2.2.2.2.2.2.2.2.2.2.1, s3.2.2.2.2.2.2.2.2.2.2.2.2.2.2.2.2.2.2.2.2.2.2.2.2.2.1, s3.2.2.2.2.2.2.2.2.2.2.2.2.2.2.2.2.2.2.2.2.2.2.2.2.2.2.1, s3.2.2.2.2.2.2.2.2.2.2.2.2.2.2.2.2.2.2.2.2.2.2.2.2.2.2.2.1, s3.2.2.2.2.2.2.2.2.2.2.2.2.2.2.2.2.2.2.2.2.2.2.2.2.2.2.2.2.1, s3.2.2.2.2.2.2.2.2.2.2.2.2.2.2.2.2.2.2.2.2.2.2.2.2.2.2.2.2.2.1, s3.2.2.2.2.2.2.2.2.2.2.2.2.2.2.2.2.2.2.2.2.2.2.2.2.2.2.2.2.2.2)))) (0, 0, v1.1.fa.fk, v1.1.fa.fg, v1.1.fa.fu, v1.1.fa.fw, v1.1.fy.fp, v1.1.fy.f0, v1.1.fy.fb, v1.1.fc.fu, v1.1.fc.fg, v1.1.fc.fw, v1.1.fc.fa9, v1.1.fc.fb, v1.1.f4.f8, v1.1.f4.fw, v1.1.f4.f5, v1.1.fa7.fg, v1.1.fa7.fp, v1.1.fa7.fh, v1.1.fa7.fb, v1.1.ff.fg, v1.1.ff.fp, v1.1.ff.fb6, v1.1.ff.fh, v1.1.ff.fb, v1.1.fq.fg, v1.1.fq.fp, v1.1.fq.fb2, v1.1.fq.fx, v1.1.fq.fb))
def Wy (a0 : Q9) (a1 : (List Qh)) (a2 : (List Int)) (r : Qc) : Prop := YC a0 a1 a2 fun x => r = x
theorem Io {a0 : Q9} {a1 : (List Qh)} {a2 : (List Int)} {Post : Qc → Prop} (h : YC a0 a1 a2 Post) : ∃ r, Wy a0 a1 a2 r ∧ Post r := (show GM (YC a0 a1 a2) (YC a0 a1 a2) from GM.ex fun v1 => GM.join (fun p2 => GM.ret _) (fun _ _ J2 => GM.loop (fun X Y Q s3 X3 h => ⟨fun hc => (Exists.elim (h.1 hc) fun v6 hv6 => ⟨v6, hv6.1, (Exists.elim hv6.2 fun v7 hv7 => ⟨v7, hv7.1, X3 _ hv7.2⟩)⟩), fun hc => h.2 hc⟩) (fun _ _ X3 s3 => GM.cond (GM.ex fun v6 => GM.ex fun v7 => X3 _) (J2 _)))) Post h
theorem Ip {a0 : Q9} {a1 : (List Qh)} {a2 : (List Int)} {r : Qc} (h : Wy a0 a1 a2 r) : Qq Tryz.prog 40 [.agg (VA a0), .c (.l 2 (List.map QJ a1)), .c (.l 1 (List.map (eI .u8) a2))] [.agg [.p (.v (.int .i64 r.fa.fk)), .p (.v (.int .i64 r.fa.fg)), .p (.v (.int .i64 r.fa.fu)), .p (.v (.int .u64 r.fa.fw)), .p (.v (.int .i64 r.fy.fp)), .p (.v (.int .i64 r.fy.f0)), .p (.v (.bool r.fy.fb)), .p (.v (.int .i64 r.fc.fu)), .p (.v (.int .i64 r.fc.fg)), .p (.v (.int .u64 r.fc.fw)), .p (.l 1 (List.map (eI .i64) r.fc.fa9)), .p (.v (.bool r.fc.fb)), .p (.v (.int .i64 r.f4.f8)), .p (.v (.int .u64 r.f4.fw)), .p (.l 1 (List.map (eI .i64) r.f4.f5)), .p (.v (.int .i64 r.fa7.fg)), .p (.v (.int .i64 r.fa7.fp)), .p (.l 3 (List.map Q8 r.fa7.fh)), .p (.v (.bool r.fa7.fb)), .p (.v (.int .i64 r.ff.fg)), .p (.v (.int .i64 r.ff.fp)), .p (.v (.int .i64 r.ff.fb6)), .p (.l 3 (List.map Q8 r.ff.fh)), .p (.v (.bool r.ff.fb)), .p (.v (.int .i64 r.fq.fg)), .p (.v (.int .i64 r.fq.fp)), .p (.v (.int .i64 r.fq.fb2)), .p (.l 1 (List.map (eL 1 eS) r.fq.fx)), .p (.v (.bool r.fq.fb))]] [] := by
  refine Qn tb Tryz.func40 Z (by kernel_rfl) Z Z (Nat.le_of_ble_eq_true Z) Z ?_;intro E;unfold Wy YC at h;refine Z3 (fun Q hQ => ?_);refine tD Z ?_;refine tk fun L hL => ?_;refine dN 1 Z ?_;obtain ⟨v1, hv1, h⟩ := h;refine ul (Zw (Ii hv1)) ?_;refine dN 6 Z ?_;refine rt (hL _ ?_);refine tD Z ?_;refine Z5 (fun (p2 : Int × Int × Int × Int × Int × Int × Bool × Int × Int × Int × (List Int) × Bool × Int × Int × (List Int) × Int × Int × (List Q1) × Bool × Int × Int × Int × (List Q1) × Bool × Int × Int × Int × (List (List ByteArray)) × Bool) => (⟨[(6, .c (.ptr (6, 0) 0 0)), (7, .c (.ptr (7, 0) 0 0))], [((6, 0), some (.box ([.p (.v (.int .i64 0)), .p (.v (.int .i64 0)), .p (.v (.int .i64 0)), .p (.v (.int .u64 0)), .p (.v (.int .i64 0)), .p (.v (.int .i64 0)), .p (.v (.bool false)), .p (.v (.int .i64 0)), .p (.v (.int .i64 0)), .p (.v (.int .u64 0)), .p (.v (.slice none 0 0)), .p (.v (.bool false)), .p (.v (.int .i64 0)), .p (.v (.int .u64 0)), .p (.v (.slice none 0 0)), .p (.v (.int .i64 0)), .p (.v (.int .i64 0)), .p (.v (.slice none 0 0)), .p (.v (.bool false)), .p (.v (.int .i64 0)), .p (.v (.int .i64 0)), .p (.v (.int .i64 0)), .p (.v (.slice none 0 0)), .p (.v (.bool false)), .p (.v (.int .i64 0)), .p (.v (.int .i64 0)), .p (.v (.int .i64 0)), .p (.v (.slice none 0 0)), .p (.v (.bool false))]))), ((7, 0), some (.box ([.p (.v (.int .i64 p2.1)), .p (.v (.int .i64 p2.2.1)), .p (.v (.int .i64 p2.2.2.1)), .p (.v (.int .u64 p2.2.2.2.1)), .p (.v (.int .i64 p2.2.2.2.2.1)), .p (.v (.int .i64 p2.2.2.2.2.2.1)), .p (.v (.bool p2.2.2.2.2.2.2.1)), .p (.v (.int .i64 p2.2.2.2.2.2.2.2.1)), .p (.v (.int .i64 p2.2.2.2.2.2.2.2.2.1)), .p (.v (.int .u64 p2.2.2.2.2.2.2.2.2.2.1)), .p (.l 1 (List.map (eI .i64) p2.2.2.2.2.2.2.2.2.2.2.1)), .p (.v (.bool p2.2.2.2.2.2.2.2.2.2.2.2.1)), .p (.v (.int .i64 p2.2.2.2.2.2.2.2.2.2.2.2.2.1)), .p (.v (.int .u64 p2.2.2.2.2.2.2.2.2.2.2.2.2.2.1)), .p (.l 1 (List.map (eI .i64) p2.2.2.2.2.2.2.2.2.2.2.2.2.2.2.1)), .p (.v (.int .i64 p2.2.2.2.2.2.2.2.2.2.2.2.2.2.2.2.1)), .p (.v (.int .i64 p2.2.2.2.2.2.2.2.2.2.2.2.2.2.2.2.2.1)), .p (.l 3 (List.map Q8 p2.2.2.2.2.2.2.2.2.2.2.2.2.2.2.2.2.2.1)), .p (.v (.bool p2.2.2.2.2.2.2.2.2.2.2.2.2.2.2.2.2.2.2.1)), .p (.v (.int .i64 p2.2.2.2.2.2.2.2.2.2.2.2.2.2.2.2.2.2.2.2.1)), .p (.v (.int .i64 p2.2.2.2.2.2.2.2.2.2.2.2.2.2.2.2.2.2.2.2.2.1)), .p (.v (.int .i64 p2.2.2.2.2.2.2.2.2.2.2.2.2.2.2.2.2.2.2.2.2.2.1)), .p (.l 3 (List.map Q8 p2.2.2.2.2.2.2.2.2.2.2.2.2.2.2.2.2.2.2.2.2.2.2.1)), .p (.v (.bool p2.2.2.2.2.2.2.2.2.2.2.2.2.2.2.2.2.2.2.2.2.2.2.2.1)), .p (.v (.int .i64 p2.2.2.2.2.2.2.2.2.2.2.2.2.2.2.2.2.2.2.2.2.2.2.2.2.1)), .p (.v (.int .i64 p2.2.2.2.2.2.2.2.2.2.2.2.2.2.2.2.2.2.2.2.2.2.2.2.2.2.1)), .p (.v (.int .i64 p2.2.2.2.2.2.2.2.2.2.2.2.2.2.2.2.2.2.2.2.2.2.2.2.2.2.2.1)), .p (.l 1 (List.map (eL 1 eS) p2.2.2.2.2.2.2.2.2.2.2.2.2.2.2.2.2.2.2.2.2.2.2.2.2.2.2.2.1)), .p (.v (.bool p2.2.2.2.2.2.2.2.2.2.2.2.2.2.2.2.2.2.2.2.2.2.2.2.2.2.2.2.2))])))]⟩ : St)) h (fun p2 h => ?_) (fun J2 L2 hL2 h => ?_)
  · refine tD Z ?_;obtain rfl := h;exact Qf (hQ _ _ ⟨.inr Z, _, _, _, (.cons (.cella Z Z Z Z Z) .nil), (.cons (.agg (Qr (Qr (Qr (Qr (Qr (Qr (Qr (Qr (Qr (Qr (Qr (Qr (Qr (Qr (Qr (Qr (Qr (Qr (Qr (Qr (Qr (Qr (Qr (Qr (Qr (Qr (Qr (Qr (Qr .nil)))))))))))))))))))))))))))))) .nil), Z, Z⟩)
  · refine tD Z ?_;refine Qt ?_;refine Zs (fun (s3 : Int × Int × Int × Int × Int × Int × Int × Int × Bool × Int × Int × Int × (List Int) × Bool × Int × Int × (List Int) × Int × Int × (List Q1) × Bool × Int × Int × Int × (List Q1) × Bool × Int × Int × Int × (List (List ByteArray)) × Bool) => (⟨[(1, .c (.p (.l 2 (List.map QJ a1)))), (2, .c (.p (.l 1 (List.map (eI .u8) a2)))), (6, .c (.ptr (6, 0) 0 0)), (7, .c (.ptr (7, 0) 0 0)), (9, .c (.p (.v (.int .i64 s3.1)))), (10, .c (.p (.v (.int .i64 s3.2.1))))], [((6, 0), some (.box ([.p (.v (.int .i64 0)), .p (.v (.int .i64 0)), .p (.v (.int .i64 0)), .p (.v (.int .u64 0)), .p (.v (.int .i64 0)), .p (.v (.int .i64 0)), .p (.v (.bool false)), .p (.v (.int .i64 0)), .p (.v (.int .i64 0)), .p (.v (.int .u64 0)), .p (.v (.slice none 0 0)), .p (.v (.bool false)), .p (.v (.int .i64 0)), .p (.v (.int .u64 0)), .p (.v (.slice none 0 0)), .p (.v (.int .i64 0)), .p (.v (.int .i64 0)), .p (.v (.slice none 0 0)), .p (.v (.bool false)), .p (.v (.int .i64 0)), .p (.v (.int .i64 0)), .p (.v (.int .i64 0)), .p (.v (.slice none 0 0)), .p (.v (.bool false)), .p (.v (.int .i64 0)), .p (.v (.int .i64 0)), .p (.v (.int .i64 0)), .p (.v (.slice none 0 0)), .p (.v (.bool false))]))), ((7, 0), some (.box ([.p (.v (.int .i64 s3.2.2.1)), .p (.v (.int .i64 s3.2.2.2.1)), .p (.v (.int .i64 s3.2.2.2.2.1)), .p (.v (.int .u64 s3.2.2.2.2.2.1)), .p (.v (.int .i64 s3.2.2.2.2.2.2.1)), .p (.v (.int .i64 s3.2.2.2.2.2.2.2.1)), .p (.v (.bool s3.2.2.2.2.2.2.2.2.1)), .p (.v (.int .i64 s3.2.2.2.2.2.2.2.2.2.1)), .p (.v (.int .i64 s3.2.2.2.2.2.2.2.2.2.2.1)), .p (.v (.int .u64 s3.2.2.2.2.2.2.2.2.2.2.2.1)), .p (.l 1 (List.map (eI .i64) s3.2.2.2.2.2.2.2.2.2.2.2.2.1)), .p (.v (.bool s3.2.2.2.2.2.2.2.2.2.2.2.2.2.1)), .p (.v (.int .i64 s3.2.2.2.2.2.2.2.2.2.2.2.2.2.2.1)), .p (.v (.int .u64 s3.2.2.2.2.2.2.2.2.2.2.2.2.2.2.2.1)), .p (.l 1 (List.map (eI .i64) s3.2.2.2.2.2.2.2.2.2.2.2.2.2.2.2.2.1)), .p (.v (.int .i64 s3.2.2.2.2.2.2.2.2.2.2.2.2.2.2.2.2.2.1)), .p (.v (.int .i64 s3.2.2.2.2.2.2.2.2.2.2.2.2.2.2.2.2.2.2.1)), .p (.l 3 (List.map Q8 s3.2.2.2.2.2.2.2.2.2.2.2.2.2.2.2.2.2.2.2.1)), .p (.v (.bool s3.2.2.2.2.2.2.2.2.2.2.2.2.2.2.2.2.2.2.2.2.1)), .p (.v (.int .i64 s3.2.2.2.2.2.2.2.2.2.2.2.2.2.2.2.2.2.2.2.2.2.1)), .p (.v (.int .i64 s3.2.2.2.2.2.2.2.2.2.2.2.2.2.2.2.2.2.2.2.2.2.2.1)), .p (.v (.int .i64 s3.2.2.2.2.2.2.2.2.2.2.2.2.2.2.2.2.2.2.2.2.2.2.2.1)), .p (.l 3 (List.map Q8 s3.2.2.2.2.2.2.2.2.2.2.2.2.2.2.2.2.2.2.2.2.2.2.2.2.1)), .p (.v (.bool s3.2.2.2.2.2.2.2.2.2.2.2.2.2.2.2.2.2.2.2.2.2.2.2.2.2.1)), .p (.v (.int .i64 s3.2.2.2.2.2.2.2.2.2.2.2.2.2.2.2.2.2.2.2.2.2.2.2.2.2.2.1)), .p (.v (.int .i64 s3.2.2.2.2.2.2.2.2.2.2.2.2.2.2.2.2.2.2.2.2.2.2.2.2.2.2.2.1)), .p (.v (.int .i64 s3.2.2.2.2.2.2.2.2.2.2.2.2.2.2.2.2.2.2.2.2.2.2.2.2.2.2.2.2.1)), .p (.l 1 (List.map (eL 1 eS) s3.2.2.2.2.2.2.2.2.2.2.2.2.2.2.2.2.2.2.2.2.2.2.2.2.2.2.2.2.2.1)), .p (.v (.bool s3.2.2.2.2.2.2.2.2.2.2.2.2.2.2.2.2.2.2.2.2.2.2.2.2.2.2.2.2.2.2))])))]⟩ : St)) h ((QB.frz (13, 10)).trans ((QB.frz (13, 14)).trans ((QB.cells (7, 0) Z (.c (.c (.c (.c (.c (.c (.c (.c (.c (.c (.cons (.fr (b := (13, 10)) Z (QG Z)) (.c (.c (.c (.cons (.fr (b := (13, 14)) Z (QG Z)) (.c (.c (.c (.c (.c (.c (.c (.c (.c (.c (.c (.c (.c (.c .nil)))))))))))))))))))))))))))))).trans QB.fit))) (fun X3 L3 hL3 s3 h => ?_)
    refine sk fun L4 hL4 => ?_;refine tk fun L hL => ?_;refine dN 2 Z ?_;refine u0 QA ?_;refine dN 1 Z ?_;refine rt (hL _ ?_);refine cn h (fun h => ?_) fun h => ?_
    · refine Qi (hL4 _ ?_);refine sk fun L5 hL5 => ?_;refine Qt ?_;refine dl mixed (fun L hL => ?_);refine dN 3 Z ?_;obtain ⟨v6, hv6, h⟩ := h;refine u0 (QC hv6) ?_;refine dN 3 Z ?_;obtain ⟨v7, hv7, h⟩ := h;refine u0 (QQ (Fl hv7)) ?_;refine dN 6 Z ?_;refine rd (hL _ (hL5 _ ?_));refine tE Z (hL3 _ _ h QB.fit)
    · refine QT (hL2 _ _ h QB.fit)
def Xa (a0 : (List Int)) (Q : Qc → Prop) : Prop :=
 ∃ v1, VU a0 0 v1 ∧ ∃ v2, VV v1 v2 ∧ ((0 : Int) ≤ (Y3 ((a0.length : Int)) 2) ∧ (Y3 ((a0.length : Int)) 2 : Int) ≤ (a0.length : Int)) ∧ ∃ v4, VU a0 1 v4 ∧ ∃ v5, VD (List.drop (Int.toNat (Y3 ((a0.length : Int)) 2)) a0) (QM .i64 v4 7) v5 ∧ ∃ v6, VU a0 9 v6 ∧ ∃ v7, JY v6 v7 ∧ ∃ v8, Wy v2 v5 v7 v8 ∧ Q v8
def Y8 (a0 : (List Int)) (r : Qc) : Prop := Xa a0 fun x => r = x
theorem G5 {a0 : (List Int)} {Post : Qc → Prop} (h : Xa a0 Post) : ∃ r, Y8 a0 r ∧ Post r := (show GM (Xa a0) (Xa a0) from GM.ex fun v1 => GM.ex fun v2 => GM.and (GM.ex fun v4 => GM.ex fun v5 => GM.ex fun v6 => GM.ex fun v7 => GM.ex fun v8 => GM.ret _)) Post h
theorem G6 {a0 : (List Int)} {r : Qc} (h : Y8 a0 r) : Qq Tryz.prog 30 [.c (.l 1 (List.map (eI .i64) a0))] [.agg [.p (.v (.int .i64 r.fa.fk)), .p (.v (.int .i64 r.fa.fg)), .p (.v (.int .i64 r.fa.fu)), .p (.v (.int .u64 r.fa.fw)), .p (.v (.int .i64 r.fy.fp)), .p (.v (.int .i64 r.fy.f0)), .p (.v (.bool r.fy.fb)), .p (.v (.int .i64 r.fc.fu)), .p (.v (.int .i64 r.fc.fg)), .p (.v (.int .u64 r.fc.fw)), .p (.l 1 (List.map (eI .i64) r.fc.fa9)), .p (.v (.bool r.fc.fb)), .p (.v (.int .i64 r.f4.f8)), .p (.v (.int .u64 r.f4.fw)), .p (.l 1 (List.map (eI .i64) r.f4.f5)), .p (.v (.int .i64 r.fa7.fg)), .p (.v (.int .i64 r.fa7.fp)), .p (.l 3 (List.map Q8 r.fa7.fh)), .p (.v (.bool r.fa7.fb)), .p (.v (.int .i64 r.ff.fg)), .p (.v (.int .i64 r.ff.fp)), .p (.v (.int .i64 r.ff.fb6)), .p (.l 3 (List.map Q8 r.ff.fh)), .p (.v (.bool r.ff.fb)), .p (.v (.int .i64 r.fq.fg)), .p (.v (.int .i64 r.fq.fp)), .p (.v (.int .i64 r.fq.fb2)), .p (.l 1 (List.map (eL 1 eS) r.fq.fx)), .p (.v (.bool r.fq.fb))]] [] := by
  refine Qn tb Tryz.func30 Z (by kernel_rfl) Z Z (Nat.le_of_ble_eq_true Z) Z ?_;intro E;unfold Y8 Xa at h;refine Z3 (fun Q hQ => ?_);refine tD Z ?_;refine dk mixed (fun L hL => ?_);refine dN 1 Z ?_;obtain ⟨v1, hv1, h⟩ := h;refine u0 (QQ (WR hv1)) ?_;obtain ⟨v2, hv2, h⟩ := h;refine u0 (QQ (BG hv2)) ?_;refine dN 2 Z ?_;refine u0 QA ?_;refine u0 (CP (n := Y3 ((a0.length : Int)) 2)) ?_;obtain ⟨hm3, h⟩ := h;refine u0 (C2 hm3) ?_;refine dN 1 Z ?_;obtain ⟨v4, hv4, h⟩ := h;refine u0 (QQ (WR hv4)) ?_;refine dN 1 Z ?_;obtain ⟨v5, hv5, h⟩ := h;refine ul (Zw (D2 hv5)) ?_;refine dN 1 Z ?_;obtain ⟨v6, hv6, h⟩ := h;refine u0 (QQ (WR hv6)) ?_;obtain ⟨v7, hv7, h⟩ := h;refine u0 (QQ (WQ hv7)) ?_;obtain ⟨v8, hv8, h⟩ := h;refine ul (Y2 (Ip hv8) Z Z (.cons (.agg (.pp (.pp (.pp (.pp .nil))))) (.cons (.c (.fr Z (QG Z))) (.cons (.c (.p _)) .nil)))) ?_;refine dN 1 Z ?_;refine rd (hL _ ?_);obtain rfl := h;exact Qf (hQ _ _ ⟨.inr Z, _, _, _, (.cons (.cella Z Z Z Z Z) .nil), (.cons (.agg (Qr (Qr (Qr (Qr (Qr (Qr (Qr (Qr (Qr (Qr (Qr (Qr (Qr (Qr (Qr (Qr (Qr (Qr (Qr (Qr (Qr (Qr (Qr (Qr (Qr (Qr (Qr (Qr (Qr .nil)))))))))))))))))))))))))))))) .nil), Z, Z⟩)
def W9 (a0 : (List Int)) (a1 : Int) (Q : Qo → Prop) : Prop :=
 ∃ v1, VU a0 a1 v1 ∧ ∃ v2, VU a0 (IntKind.i64.wrap (a1 + 7)) v2 ∧ jn (fun (p4 : Bool) => ((p4 = true → ∃ v5, Zv (QH .i64 v1 5) v5 ∧ ∃ v6, VV v2 v6 ∧ Q ((Qo.mk 1 v5 ByteArray.empty ([] : (List ByteArray)) v6 ([] : (List Qh)) ([] : (List Int)) 0 0 0 0 0 0 (Qu.mk 0 ByteArray.empty 0 0 0) ([] : (List Int))))) ∧ (p4 = false → (((((v1.tmod 20) == 2)) = true → ∃ v7, Zv (QH .i64 v1 5) v7 ∧ Q ((Qo.mk 2 v7 ByteArray.empty ([] : (List ByteArray)) (Q9.mk 0 0 0 0) ([] : (List Qh)) ([] : (List Int)) 0 0 0 0 0 0 (Qu.mk 0 ByteArray.empty 0 0 0) ([] : (List Int))))) ∧ ((((v1.tmod 20) == 2)) = false → (((((v1.tmod 20) == 3)) = true → ∃ v8, Zv (QH .i64 v1 5) v8 ∧ ∃ v9, Zv (QH .i64 v1 7) v9 ∧ Q ((Qo.mk 3 v8 v9 ([] : (List ByteArray)) (Q9.mk 0 0 0 0) ([] : (List Qh)) ([] : (List Int)) 0 0 0 0 0 0 (Qu.mk 0 ByteArray.empty 0 0 0) ([] : (List Int))))) ∧ ((((v1.tmod 20) == 3)) = false → (((((v1.tmod 20) == 4)) = true → Q ((Qo.mk 4 ByteArray.empty ByteArray.empty ([] : (List ByteArray)) (Q9.mk 0 0 0 0) ([] : (List Qh)) ([] : (List Int)) 0 0 0 0 0 0 (Qu.mk 0 ByteArray.empty 0 0 0) ([] : (List Int))))) ∧ ((((v1.tmod 20) == 4)) = false → (((((v1.tmod 20) == 5)) = true → ∃ v10, Zv (QH .i64 v1 5) v10 ∧ ∃ v11, VC v2 v11 ∧ Q ((Qo.mk 5 v10 ByteArray.empty ([] : (List ByteArray)) (Q9.mk 0 0 0 0) ([] : (List Qh)) ([] : (List Int)) 0 0 0 0 0 0 v11 ([] : (List Int))))) ∧ ((((v1.tmod 20) == 5)) = false → jn (fun (p12 : Bool) => ((p12 = true → ∃ v13, Zv (QH .i64 v1 5) v13 ∧ ((0 : Int) ≤ (Y3 ((a0.length : Int)) (a1.tmod 5)) ∧ (Y3 ((a0.length : Int)) (a1.tmod 5) : Int) ≤ (a0.length : Int)) ∧ ∃ v15, VD (List.drop (Int.toNat (Y3 ((a0.length : Int)) (a1.tmod 5))) a0) (IntKind.i64.wrap (1 + (QM .i64 (QH .i64 v1 7) 7))) v15 ∧ ∃ v16, JY v2 v16 ∧ Q ((Qo.mk 6 v13 ByteArray.empty ([] : (List ByteArray)) (Q9.mk 0 0 0 0) v15 v16 0 0 0 0 0 0 (Qu.mk 0 ByteArray.empty 0 0 0) ([] : (List Int))))) ∧ (p12 = false → (((((v1.tmod 20) == 9)) = true → ∃ v17, Zv (QH .i64 v1 5) v17 ∧ ∃ v18, Zv (QH .i64 v1 7) v18 ∧ ∃ v19, JY v2 v19 ∧ Q ((Qo.mk 7 v17 v18 ([] : (List ByteArray)) (Q9.mk 0 0 0 0) ([] : (List Qh)) v19 0 0 0 0 0 0 (Qu.mk 0 ByteArray.empty 0 0 0) ([] : (List Int))))) ∧ ((((v1.tmod 20) == 9)) = false → (((((v1.tmod 20) == 10)) = true → ∃ v20, Zv (QH .i64 v1 5) v20 ∧ ∃ v21, Zv (QH .i64 v1 7) v21 ∧ ∃ v22, JY v2 v22 ∧ Q ((Qo.mk 8 v20 v21 ([] : (List ByteArray)) (Q9.mk 0 0 0 0) ([] : (List Qh)) v22 (IntKind.i64.wrap (1 + (QM .i64 v2 7))) (IntKind.i64.wrap (1 + (QM .i64 (QH .i64 v2 3) 7))) 0 0 0 0 (Qu.mk 0 ByteArray.empty 0 0 0) ([] : (List Int))))) ∧ ((((v1.tmod 20) == 10)) = false → jn (fun (p23 : Bool) => ((p23 = true → ∃ v24, Zv (QH .i64 v1 5) v24 ∧ ∃ v25, Zv (QH .i64 v1 7) v25 ∧ ∃ v26, Zv (QH .i64 v1 8) v26 ∧ ((0 : Int) ≤ (IntKind.i64.wrap ((IntKind.i64.wrap (1 + (QM .i64 (QH .i64 v1 10) 1))) + (QM .i64 (QH .i64 v1 11) 1))) ∧ (IntKind.i64.wrap ((IntKind.i64.wrap (1 + (QM .i64 (QH .i64 v1 10) 1))) + (QM .i64 (QH .i64 v1 11) 1)) : Int) ≤ (((List.map eS ([v24, v25, v26])).length : Nat) : Int)) ∧ Q ((Qo.mk 9 ByteArray.empty ByteArray.empty (List.take (Int.toNat (IntKind.i64.wrap ((IntKind.i64.wrap (1 + (QM .i64 (QH .i64 v1 10) 1))) + (QM .i64 (QH .i64 v1 11) 1)))) ([v24, v25, v26])) (Q9.mk 0 0 0 0) ([] : (List Qh)) ([] : (List Int)) 0 0 0 0 0 0 (Qu.mk 0 ByteArray.empty 0 0 0) ([] : (List Int))))) ∧ (p23 = false → (((((v1.tmod 20) == 13)) = true → ∃ v28, VC v2 v28 ∧ Q ((Qo.mk 10 ByteArray.empty ByteArray.empty ([] : (List ByteArray)) (Q9.mk 0 0 0 0) ([] : (List Qh)) ([] : (List Int)) 0 0 (QM .i64 (QH .i64 v1 5) 1) (QM .i64 (QH .i64 v1 6) 1) 0 0 v28 ([] : (List Int))))) ∧ ((((v1.tmod 20) == 13)) = false → (((((v1.tmod 20) == 14)) = true → Q ((Qo.mk 11 ByteArray.empty ByteArray.empty ([] : (List ByteArray)) (Q9.mk 0 0 0 0) ([] : (List Qh)) ([] : (List Int)) 0 0 (QM .i64 (QH .i64 v1 5) 1) 0 0 0 (Qu.mk 0 ByteArray.empty 0 0 0) ([] : (List Int))))) ∧ ((((v1.tmod 20) == 14)) = false → (((((v1.tmod 20) == 15)) = true → Q ((Qo.mk 12 ByteArray.empty ByteArray.empty ([] : (List ByteArray)) (Q9.mk 0 0 0 0) ([] : (List Qh)) ([] : (List Int)) 0 0 (QM .i64 (QH .i64 v1 5) 1) (QM .i64 (QH .i64 v1 6) 1) 0 0 (Qu.mk 0 ByteArray.empty 0 0 0) ([] : (List Int))))) ∧ ((((v1.tmod 20) == 15)) = false → (((((v1.tmod 20) == 16)) = true → Q ((Qo.mk 13 ByteArray.empty ByteArray.empty ([] : (List ByteArray)) (Q9.mk 0 0 0 0) ([] : (List Qh)) ([] : (List Int)) 0 0 0 0 (QM .i64 (QH .i64 v1 5) 1) (QM .i64 (QH .i64 v1 6) 3) (Qu.mk 0 ByteArray.empty 0 0 0) ([] : (List Int))))) ∧ ((((v1.tmod 20) == 16)) = false → (((((v1.tmod 20) == 17)) = true → Q ((Qo.mk 14 ByteArray.empty ByteArray.empty ([] : (List ByteArray)) (Q9.mk 0 0 0 0) ([] : (List Qh)) ([] : (List Int)) 0 0 0 0 (QM .i64 (QH .i64 v1 5) 1) 0 (Qu.mk 0 ByteArray.empty 0 0 0) ([] : (List Int))))) ∧ ((((v1.tmod 20) == 17)) = false → (((((v1.tmod 20) == 18)) = true → (((((QM .i64 (QH .i64 v1 5) 1) == 1)) = true → Q ((Qo.mk 15 ByteArray.empty ByteArray.empty ([] : (List ByteArray)) (Q9.mk 0 0 0 0) ([] : (List Qh)) ([] : (List Int)) 0 0 (QM .i64 (QH .i64 v1 6) 1) (QM .i64 (QH .i64 v1 7) 1) 0 0 (Qu.mk 0 ByteArray.empty 0 0 0) ([] : (List Int))))) ∧ ((((QM .i64 (QH .i64 v1 5) 1) == 1)) = false → ∃ v30, Zv (QH .i64 v1 6) v30 ∧ ((0 : Int) ≤ (Y3 ((a0.length : Int)) (a1.tmod 7)) ∧ (Y3 ((a0.length : Int)) (a1.tmod 7) : Int) ≤ (a0.length : Int)) ∧ ∃ v32, Y8 (List.drop (Int.toNat (Y3 ((a0.length : Int)) (a1.tmod 7))) a0) v32 ∧ ∃ v33, Wj v32 v33 ∧ Q ((Qo.mk 16 v30 ByteArray.empty ([] : (List ByteArray)) (Q9.mk 0 0 0 0) ([] : (List Qh)) ([] : (List Int)) 0 0 0 0 0 0 (Qu.mk 0 ByteArray.empty 0 0 0) v33))))) ∧ ((((v1.tmod 20) == 18)) = false → Q ((Qo.mk 17 ByteArray.empty ByteArray.empty ([] : (List ByteArray)) (Q9.mk 0 0 0 0) ([] : (List Qh)) ([] : (List Int)) 0 0 0 0 0 0 (Qu.mk 0 ByteArray.empty 0 0 0) ([] : (List Int))))))))))))))))))) (fun (J23 : Bool → Prop) => (((((v1.tmod 20) == 11)) = true → J23 ((((v1.tmod 20) == 11)))) ∧ ((((v1.tmod 20) == 11)) = false → J23 ((((v1.tmod 20) == 12))))))))))))) (fun (J12 : Bool → Prop) => (((((v1.tmod 20) == 6)) = true → J12 ((((v1.tmod 20) == 6)))) ∧ ((((v1.tmod 20) == 6)) = false → (((((v1.tmod 20) == 7)) = true → J12 ((((v1.tmod 20) == 7)))) ∧ ((((v1.tmod 20) == 7)) = false → J12 ((((v1.tmod 20) == 8))))))))))))))))))) (fun (J4 : Bool → Prop) => (((((v1.tmod 20) == 0)) = true → J4 ((((v1.tmod 20) == 0)))) ∧ ((((v1.tmod 20) == 0)) = false → J4 ((((v1.tmod 20) == 1))))))
def WS (a0 : (List Int)) (a1 : Int) (r : Qo) : Prop := W9 a0 a1 fun x => r = x
theorem Mo {a0 : (List Int)} {a1 : Int} {Post : Qo → Prop} (h : W9 a0 a1 Post) : ∃ r, WS a0 a1 r ∧ Post r := (show GM (W9 a0 a1) (W9 a0 a1) from GM.ex fun v1 => GM.ex fun v2 => GM.join (fun p4 => GM.cond (GM.ex fun v5 => GM.ex fun v6 => GM.ret _) (GM.cond (GM.ex fun v7 => GM.ret _) (GM.cond (GM.ex fun v8 => GM.ex fun v9 => GM.ret _) (GM.cond (GM.ret _) (GM.cond (GM.ex fun v10 => GM.ex fun v11 => GM.ret _) (GM.join (fun p12 => GM.cond (GM.ex fun v13 => GM.and (GM.ex fun v15 => GM.ex fun v16 => GM.ret _)) (GM.cond (GM.ex fun v17 => GM.ex fun v18 => GM.ex fun v19 => GM.ret _) (GM.cond (GM.ex fun v20 => GM.ex fun v21 => GM.ex fun v22 => GM.ret _) (GM.join (fun p23 => GM.cond (GM.ex fun v24 => GM.ex fun v25 => GM.ex fun v26 => GM.and (GM.ret _)) (GM.cond (GM.ex fun v28 => GM.ret _) (GM.cond (GM.ret _) (GM.cond (GM.ret _) (GM.cond (GM.ret _) (GM.cond (GM.ret _) (GM.cond (GM.cond (GM.ret _) (GM.ex fun v30 => GM.and (GM.ex fun v32 => GM.ex fun v33 => GM.ret _))) (GM.ret _)))))))) (fun _ _ J23 => GM.cond (J23 _) (J23 _)))))) (fun _ _ J12 => GM.cond (J12 _) (GM.cond (J12 _) (J12 _))))))))) (fun _ _ J4 => GM.cond (J4 _) (J4 _))) Post h
theorem GD {a0 : (List Int)} {a1 : Int} {r : Qo} (h : WS a0 a1 r) : Qq Tryz.prog 8 [.c (.l 1 (List.map (eI .i64) a0)), .c (.v (.int .i64 a1))] [.agg [.p (.v (.int .i64 r.fk)), .p (.v (.string r.fb4)), .p (.v (.string r.fi)), .p (.l 1 (List.map eS r.fa0)), .p (.v (.int .i64 r.fa.fk)), .p (.v (.int .i64 r.fa.fg)), .p (.v (.int .i64 r.fa.fu)), .p (.v (.int .u64 r.fa.fw)), .own 2 (List.map QJ r.f0), .p (.l 1 (List.map (eI .u8) r.fb0)), .p (.v (.int .i64 r.f9)), .p (.v (.int .i64 r.fa6)), .p (.v (.int .i64 r.fa1)), .p (.v (.int .i64 r.fb1)), .p (.v (.int .i64 r.fa2)), .p (.v (.int .i64 r.fv)), .p (.v (.int .i64 r.fo.fk)), .p (.v (.string r.fo.fa4)), .p (.v (.int .i64 r.fo.fv)), .p (.v (.int .i64 r.fo.fb9)), .p (.v (.int .i64 r.fo.fb8)), .own 1 (List.map (eI .u8) r.fb3)]] [] := by
  refine Qn tb Tryz.func8 Z (by kernel_rfl) Z Z (Nat.le_of_ble_eq_true Z) Z ?_;intro E;unfold WS W9 at h;refine Z3 (fun Q hQ => ?_);refine tD Z ?_;refine tk fun L hL => ?_;refine dN 2 Z ?_;obtain ⟨v1, hv1, h⟩ := h;refine u0 (QQ (WR hv1)) ?_;refine dN 3 Z ?_;obtain ⟨v2, hv2, h⟩ := h;refine u0 (QQ (WR hv2)) ?_;refine dN 2 Z ?_;refine rt (hL _ ?_);refine sk fun L3 hL3 => ?_;refine tD Z ?_;refine Qt ?_;refine Z5 (fun (p4 : Bool) => (⟨[(0, .c (.p (.l 1 (List.map (eI .i64) a0)))), (1, .c (.p (.v (.int .i64 a1)))), (4, .c (.ptr (4, 0) 0 0)), (5, .c (.p (.v (.int .i64 v1)))), (6, .c (.p (.v (.int .i64 v2)))), (16, .c (.p (.v (.int .i64 (v1.tmod 20))))), (17, .c (.p (.v (.bool p4))))], [((4, 0), some (.box ([.p (.v (.int .i64 0)), .p (.v (.string ByteArray.empty)), .p (.v (.string ByteArray.empty)), .p (.v (.slice none 0 0)), .p (.v (.int .i64 0)), .p (.v (.int .i64 0)), .p (.v (.int .i64 0)), .p (.v (.int .u64 0)), .p (.v (.slice none 0 0)), .p (.v (.slice none 0 0)), .p (.v (.int .i64 0)), .p (.v (.int .i64 0)), .p (.v (.int .i64 0)), .p (.v (.int .i64 0)), .p (.v (.int .i64 0)), .p (.v (.int .i64 0)), .p (.v (.int .i64 0)), .p (.v (.string ByteArray.empty)), .p (.v (.int .i64 0)), .p (.v (.int .i64 0)), .p (.v (.int .i64 0)), .p (.v (.slice none 0 0))])))]⟩ : St)) h (fun p4 h => ?_) (fun J4 L4 hL4 h => ?_)
  · refine cn h (fun h => ?_) fun h => ?_
    · refine tk fun L hL => ?_;refine dN 2 Z ?_;obtain ⟨v5, hv5, h⟩ := h;refine u0 (QQ (K3 hv5)) ?_;refine dN 1 Z ?_;obtain ⟨v6, hv6, h⟩ := h;refine u0 (QQ (BG hv6)) ?_;refine dN 2 Z ?_;refine rt (hL _ ?_);obtain rfl := h;exact Qf (hQ _ _ ⟨.inr Z, _, _, _, (.cons (.cella Z Z Z Z Z) .nil), (.cons (.agg (Qr (Qr (Qr (YW (Qr (Qr (Qr (Qr (Uh Z (YW (Qr (Qr (Qr (Qr (Qr (Qr (Qr (Qr (Qr (Qr (Qr (Uh Z .nil))))))))))))))))))))))) .nil), Z, Z⟩)
    · refine tD Z ?_;refine cn h (fun h => ?_) fun h => ?_
      · refine tk fun L hL => ?_;refine dN 2 Z ?_;obtain ⟨v7, hv7, h⟩ := h;refine u0 (QQ (K3 hv7)) ?_;refine dN 2 Z ?_;refine rt (hL _ ?_);obtain rfl := h;exact Qf (hQ _ _ ⟨.inr Z, _, _, _, (.cons (.cella Z Z Z Z Z) .nil), (.cons (.agg (Qr (Qr (Qr (YW (Qr (Qr (Qr (Qr (Uh Z (YW (Qr (Qr (Qr (Qr (Qr (Qr (Qr (Qr (Qr (Qr (Qr (Uh Z .nil))))))))))))))))))))))) .nil), Z, Z⟩)
      · refine tD Z ?_;refine cn h (fun h => ?_) fun h => ?_
        · refine tk fun L hL => ?_;refine dN 2 Z ?_;obtain ⟨v8, hv8, h⟩ := h;refine u0 (QQ (K3 hv8)) ?_;refine dN 2 Z ?_;obtain ⟨v9, hv9, h⟩ := h;refine u0 (QQ (K3 hv9)) ?_;refine dN 2 Z ?_;refine rt (hL _ ?_);obtain rfl := h;exact Qf (hQ _ _ ⟨.inr Z, _, _, _, (.cons (.cella Z Z Z Z Z) .nil), (.cons (.agg (Qr (Qr (Qr (YW (Qr (Qr (Qr (Qr (Uh Z (YW (Qr (Qr (Qr (Qr (Qr (Qr (Qr (Qr (Qr (Qr (Qr (Uh Z .nil))))))))))))))))))))))) .nil), Z, Z⟩)
        · refine tD Z ?_;refine cn h (fun h => ?_) fun h => ?_
          · refine tD Z ?_;obtain rfl := h;exact Qf (hQ _ _ ⟨.inr Z, _, _, _, (.cons (.cella Z Z Z Z Z) .nil), (.cons (.agg (Qr (Qr (Qr (YW (Qr (Qr (Qr (Qr (Uh Z (YW (Qr (Qr (Qr (Qr (Qr (Qr (Qr (Qr (Qr (Qr (Qr (Uh Z .nil))))))))))))))))))))))) .nil), Z, Z⟩)
          · refine tD Z ?_;refine cn h (fun h => ?_) fun h => ?_
            · refine tk fun L hL => ?_;refine dN 2 Z ?_;obtain ⟨v10, hv10, h⟩ := h;refine u0 (QQ (K3 hv10)) ?_;refine dN 1 Z ?_;obtain ⟨v11, hv11, h⟩ := h;refine u0 (QQ (UW hv11)) ?_;refine dN 2 Z ?_;refine rt (hL _ ?_);obtain rfl := h;exact Qf (hQ _ _ ⟨.inr Z, _, _, _, (.cons (.cella Z Z Z Z Z) .nil), (.cons (.agg (Qr (Qr (Qr (YW (Qr (Qr (Qr (Qr (Uh Z (YW (Qr (Qr (Qr (Qr (Qr (Qr (Qr (Qr (Qr (Qr (Qr (Uh Z .nil))))))))))))))))))))))) .nil), Z, Z⟩)
            · refine Z5 (fun (p12 : Bool) => (⟨[(0, .c (.p (.l 1 (List.map (eI .i64) a0)))), (1, .c (.p (.v (.int .i64 a1)))), (4, .c (.ptr (4, 0) 0 0)), (5, .c (.p (.v (.int .i64 v1)))), (6, .c (.p (.v (.int .i64 v2)))), (16, .c (.p (.v (.int .i64 (v1.tmod 20))))), (52, .c (.p (.v (.bool p12))))], [((4, 0), some (.box ([.p (.v (.int .i64 0)), .p (.v (.string ByteArray.empty)), .p (.v (.string ByteArray.empty)), .p (.v (.slice none 0 0)), .p (.v (.int .i64 0)), .p (.v (.int .i64 0)), .p (.v (.int .i64 0)), .p (.v (.int .u64 0)), .p (.v (.slice none 0 0)), .p (.v (.slice none 0 0)), .p (.v (.int .i64 0)), .p (.v (.int .i64 0)), .p (.v (.int .i64 0)), .p (.v (.int .i64 0)), .p (.v (.int .i64 0)), .p (.v (.int .i64 0)), .p (.v (.int .i64 0)), .p (.v (.string ByteArray.empty)), .p (.v (.int .i64 0)), .p (.v (.int .i64 0)), .p (.v (.int .i64 0)), .p (.v (.slice none 0 0))])))]⟩ : St)) h (fun p12 h => ?_) (fun J12 L12 hL12 h => ?_)
              · refine cn h (fun h => ?_) fun h => ?_
                · refine dk mixed (fun L hL => ?_);refine dN 2 Z ?_;obtain ⟨v13, hv13, h⟩ := h;refine u0 (QQ (K3 hv13)) ?_;refine dN 2 Z ?_;refine u0 QA ?_;refine dN 2 Z ?_;refine u0 (CP (n := Y3 ((a0.length : Int)) (a1.tmod 5))) ?_;obtain ⟨hm14, h⟩ := h;refine u0 (C2 hm14) ?_;refine dN 4 Z ?_;obtain ⟨v15, hv15, h⟩ := h;refine ul (Zw (D2 hv15)) ?_;refine dN 1 Z ?_;obtain ⟨v16, hv16, h⟩ := h;refine u0 (QQ (WQ hv16)) ?_;refine dN 2 Z ?_;refine rd (hL _ ?_);obtain rfl := h;exact Qf (hQ _ _ ⟨.inr Z, _, _, _, (.cons (.cella Z Z Z Z Z) .nil), (.cons (.agg (Qr (Qr (Qr (YW (Qr (Qr (Qr (Qr (.cons (.own Z Z) (Qr (Qr (Qr (Qr (Qr (Qr (Qr (Qr (Qr (Qr (Qr (Qr (Uh Z .nil))))))))))))))))))))))) .nil), Z, Z⟩)
                · refine tD Z ?_;refine cn h (fun h => ?_) fun h => ?_
                  · refine tk fun L hL => ?_;refine dN 2 Z ?_;obtain ⟨v17, hv17, h⟩ := h;refine u0 (QQ (K3 hv17)) ?_;refine dN 2 Z ?_;obtain ⟨v18, hv18, h⟩ := h;refine u0 (QQ (K3 hv18)) ?_;refine dN 1 Z ?_;obtain ⟨v19, hv19, h⟩ := h;refine u0 (QQ (WQ hv19)) ?_;refine dN 2 Z ?_;refine rt (hL _ ?_);obtain rfl := h;exact Qf (hQ _ _ ⟨.inr Z, _, _, _, (.cons (.cella Z Z Z Z Z) .nil), (.cons (.agg (Qr (Qr (Qr (YW (Qr (Qr (Qr (Qr (Uh Z (Qr (Qr (Qr (Qr (Qr (Qr (Qr (Qr (Qr (Qr (Qr (Qr (Uh Z .nil))))))))))))))))))))))) .nil), Z, Z⟩)
                  · refine tD Z ?_;refine cn h (fun h => ?_) fun h => ?_
                    · refine tk fun L hL => ?_;refine dN 2 Z ?_;obtain ⟨v20, hv20, h⟩ := h;refine u0 (QQ (K3 hv20)) ?_;refine dN 2 Z ?_;obtain ⟨v21, hv21, h⟩ := h;refine u0 (QQ (K3 hv21)) ?_;refine dN 1 Z ?_;obtain ⟨v22, hv22, h⟩ := h;refine u0 (QQ (WQ hv22)) ?_;refine dN 9 Z ?_;refine rt (hL _ ?_);obtain rfl := h;exact Qf (hQ _ _ ⟨.inr Z, _, _, _, (.cons (.cella Z Z Z Z Z) .nil), (.cons (.agg (Qr (Qr (Qr (YW (Qr (Qr (Qr (Qr (Uh Z (Qr (Qr (Qr (Qr (Qr (Qr (Qr (Qr (Qr (Qr (Qr (Qr (Uh Z .nil))))))))))))))))))))))) .nil), Z, Z⟩)
                    · refine Z5 (fun (p23 : Bool) => (⟨[(0, .c (.p (.l 1 (List.map (eI .i64) a0)))), (1, .c (.p (.v (.int .i64 a1)))), (4, .c (.ptr (4, 0) 0 0)), (5, .c (.p (.v (.int .i64 v1)))), (6, .c (.p (.v (.int .i64 v2)))), (16, .c (.p (.v (.int .i64 (v1.tmod 20))))), (103, .c (.p (.v (.bool p23))))], [((4, 0), some (.box ([.p (.v (.int .i64 0)), .p (.v (.string ByteArray.empty)), .p (.v (.string ByteArray.empty)), .p (.v (.slice none 0 0)), .p (.v (.int .i64 0)), .p (.v (.int .i64 0)), .p (.v (.int .i64 0)), .p (.v (.int .u64 0)), .p (.v (.slice none 0 0)), .p (.v (.slice none 0 0)), .p (.v (.int .i64 0)), .p (.v (.int .i64 0)), .p (.v (.int .i64 0)), .p (.v (.int .i64 0)), .p (.v (.int .i64 0)), .p (.v (.int .i64 0)), .p (.v (.int .i64 0)), .p (.v (.string ByteArray.empty)), .p (.v (.int .i64 0)), .p (.v (.int .i64 0)), .p (.v (.int .i64 0)), .p (.v (.slice none 0 0))])))]⟩ : St)) h (fun p23 h => ?_) (fun J23 L23 hL23 h => ?_)
                      · refine cn h (fun h => ?_) fun h => ?_
                        · refine tk fun L hL => ?_;refine dN 2 Z ?_;obtain ⟨v24, hv24, h⟩ := h;refine u0 (QQ (K3 hv24)) ?_;refine dN 2 Z ?_;obtain ⟨v25, hv25, h⟩ := h;refine u0 (QQ (K3 hv25)) ?_;refine dN 2 Z ?_;obtain ⟨v26, hv26, h⟩ := h;refine u0 (QQ (K3 hv26)) ?_;refine ul (QD (rows := List.map eS [v24, v25, v26])) ?_;refine dN 3 Z ?_;refine rt (hL _ ?_);refine tk fun L hL => ?_;refine dN 10 Z ?_;obtain ⟨hm27, h⟩ := h;refine u0 (LG hm27) ?_;refine dN 2 Z ?_;refine rt (hL _ ?_);refine tD Z ?_;obtain rfl := h;exact Qf (hQ _ _ ⟨.inr Z, _, _, _, (.cons (.cella Z Z Z Z Z) .nil), (.cons (.agg (Qr (Qr (Qr (.cons (.fr Z LI) (Qr (Qr (Qr (Qr (Uh Z (YW (Qr (Qr (Qr (Qr (Qr (Qr (Qr (Qr (Qr (Qr (Qr (Uh Z .nil))))))))))))))))))))))) .nil), Z, Z⟩)
                        · refine tD Z ?_;refine cn h (fun h => ?_) fun h => ?_
                          · refine tk fun L hL => ?_;refine dN 7 Z ?_;obtain ⟨v28, hv28, h⟩ := h;refine u0 (QQ (UW hv28)) ?_;refine dN 2 Z ?_;refine rt (hL _ ?_);obtain rfl := h;exact Qf (hQ _ _ ⟨.inr Z, _, _, _, (.cons (.cella Z Z Z Z Z) .nil), (.cons (.agg (Qr (Qr (Qr (YW (Qr (Qr (Qr (Qr (Uh Z (YW (Qr (Qr (Qr (Qr (Qr (Qr (Qr (Qr (Qr (Qr (Qr (Uh Z .nil))))))))))))))))))))))) .nil), Z, Z⟩)
                          · refine tD Z ?_;refine cn h (fun h => ?_) fun h => ?_
                            · refine tD Z ?_;obtain rfl := h;exact Qf (hQ _ _ ⟨.inr Z, _, _, _, (.cons (.cella Z Z Z Z Z) .nil), (.cons (.agg (Qr (Qr (Qr (YW (Qr (Qr (Qr (Qr (Uh Z (YW (Qr (Qr (Qr (Qr (Qr (Qr (Qr (Qr (Qr (Qr (Qr (Uh Z .nil))))))))))))))))))))))) .nil), Z, Z⟩)
                            · refine tD Z ?_;refine cn h (fun h => ?_) fun h => ?_
                              · refine tD Z ?_;obtain rfl := h;exact Qf (hQ _ _ ⟨.inr Z, _, _, _, (.cons (.cella Z Z Z Z Z) .nil), (.cons (.agg (Qr (Qr (Qr (YW (Qr (Qr (Qr (Qr (Uh Z (YW (Qr (Qr (Qr (Qr (Qr (Qr (Qr (Qr (Qr (Qr (Qr (Uh Z .nil))))))))))))))))))))))) .nil), Z, Z⟩)
                              · refine tD Z ?_;refine cn h (fun h => ?_) fun h => ?_
                                · refine tD Z ?_;obtain rfl := h;exact Qf (hQ _ _ ⟨.inr Z, _, _, _, (.cons (.cella Z Z Z Z Z) .nil), (.cons (.agg (Qr (Qr (Qr (YW (Qr (Qr (Qr (Qr (Uh Z (YW (Qr (Qr (Qr (Qr (Qr (Qr (Qr (Qr (Qr (Qr (Qr (Uh Z .nil))))))))))))))))))))))) .nil), Z, Z⟩)
                                · refine tD Z ?_;refine cn h (fun h => ?_) fun h => ?_
                                  · refine tD Z ?_;obtain rfl := h;exact Qf (hQ _ _ ⟨.inr Z, _, _, _, (.cons (.cella Z Z Z Z Z) .nil), (.cons (.agg (Qr (Qr (Qr (YW (Qr (Qr (Qr (Qr (Uh Z (YW (Qr (Qr (Qr (Qr (Qr (Qr (Qr (Qr (Qr (Qr (Qr (Uh Z .nil))))))))))))))))))))))) .nil), Z, Z⟩)
                                  · refine tD Z ?_;refine cn h (fun h => ?_) fun h => ?_
                                    · refine sk fun L29 hL29 => ?_;refine tD Z ?_;refine cn h (fun h => ?_) fun h => ?_
                                      · refine tD Z ?_;obtain rfl := h;exact Qf (hQ _ _ ⟨.inr Z, _, _, _, (.cons (.cella Z Z Z Z Z) .nil), (.cons (.agg (Qr (Qr (Qr (YW (Qr (Qr (Qr (Qr (Uh Z (YW (Qr (Qr (Qr (Qr (Qr (Qr (Qr (Qr (Qr (Qr (Qr (Uh Z .nil))))))))))))))))))))))) .nil), Z, Z⟩)
                                      · refine Qi (hL29 _ ?_);refine dk mixed (fun L hL => ?_);refine dN 2 Z ?_;obtain ⟨v30, hv30, h⟩ := h;refine u0 (QQ (K3 hv30)) ?_;refine dN 2 Z ?_;refine u0 QA ?_;refine dN 2 Z ?_;refine u0 (CP (n := Y3 ((a0.length : Int)) (a1.tmod 7))) ?_;obtain ⟨hm31, h⟩ := h;refine u0 (C2 hm31) ?_;obtain ⟨v32, hv32, h⟩ := h;refine u0 (QQ (G6 hv32)) ?_;obtain ⟨v33, hv33, h⟩ := h;refine ul (Zw (FQ hv33)) ?_;refine dN 2 Z ?_;refine rd (hL _ ?_);obtain rfl := h;exact Qf (hQ _ _ ⟨.inr Z, _, _, _, (.cons (.cella Z Z Z Z Z) .nil), (.cons (.agg (Qr (Qr (Qr (YW (Qr (Qr (Qr (Qr (Uh Z (YW (Qr (Qr (Qr (Qr (Qr (Qr (Qr (Qr (Qr (Qr (Qr (.cons (.own Z Z) .nil))))))))))))))))))))))) .nil), Z, Z⟩)
                                    · refine Qi (hL3 _ ?_);refine tD Z ?_;obtain rfl := h;exact Qf (hQ _ _ ⟨.inr Z, _, _, _, (.cons (.cella Z Z Z Z Z) .nil), (.cons (.agg (Qr (Qr (Qr (YW (Qr (Qr (Qr (Qr (Uh Z (YW (Qr (Qr (Qr (Qr (Qr (Qr (Qr (Qr (Qr (Qr (Qr (Uh Z .nil))))))))))))))))))))))) .nil), Z, Z⟩)
                      · refine tD Z ?_;refine cn h (fun h => ?_) fun h => ?_
                        · refine Qi (hL23 _ _ h QB.fit)
                        · refine tE Z (hL23 _ _ h QB.fit)
              · refine tD Z ?_;refine cn h (fun h => ?_) fun h => ?_
                · refine Qi (hL12 _ _ h QB.fit)
                · refine tD Z ?_;refine cn h (fun h => ?_) fun h => ?_
                  · refine Qi (hL12 _ _ h QB.fit)
                  · refine tE Z (hL12 _ _ h QB.fit)
  · refine tD Z ?_;refine cn h (fun h => ?_) fun h => ?_
    · refine Qi (hL4 _ _ h QB.fit)
    · refine tE Z (hL4 _ _ h QB.fit)
def U0 (a0 : Int) (a1 : Int) (a2 : Int) (Q : Bool → Prop) : Prop :=
 Q (((bif decide (a0 ≥ a1) then decide (a0 ≤ a2) else false)))
def Zp (a0 : Int) (a1 : Int) (a2 : Int) (r : Bool) : Prop := U0 a0 a1 a2 fun x => r = x
theorem Kw {a0 : Int} {a1 : Int} {a2 : Int} {r : Bool} (h : Zp a0 a1 a2 r) : Qq Tryz.prog 50 [.c (.v (.int .i64 a0)), .c (.v (.int .i64 a1)), .c (.v (.int .i64 a2))] [.c (.p (.v (.bool r)))] [] := by
  refine Qn tb Tryz.func50 Z (by kernel_rfl) Z Z (Nat.le_of_ble_eq_true Z) Z ?_;intro E;unfold Zp U0 at h;refine Z3 (fun Q hQ => ?_);refine tD Z ?_;refine tk fun L hL => ?_;refine dN 4 Z ?_;refine Q2 Z Z Q6 (fun hg => Qd Z Z) ?_;refine Q2 Z Z Q6 (fun hg => Qd Z Z) ?_;refine Q2 Z Z Q6 (fun hg => Qz (c := decide (a0 ≤ a2)) (Qb hg) (Qb hg) Z Z Z) ?_;refine u0 (Ql (v := .bool (decide (a0 ≤ a2))) (w := .bool false) Z Z Q6 Z Qw) ?_;refine dN 1 Z ?_;refine rt (hL _ ?_);obtain rfl := h;exact Qf (hQ _ _ (Zt Z Z))
def Cn (a0 : Int) (a1 : (List Int)) (Q : Bool → Prop) : Prop :=
 jn (fun (p1 : Unit) => Q false) (fun (J1 : Unit → Prop) => lp (fun (X2 : Int → Prop) (s2 : Int) => (((decide (s2 < ((a1.length : Int)))) = true → ∃ v5, ix a1 s2 v5 ∧ ((((v5 == a0)) = true → Q true) ∧ (((v5 == a0)) = false → X2 ((IntKind.i64.wrap (s2 + 1)))))) ∧ ((decide (s2 < ((a1.length : Int)))) = false → J1 (())))) 0)
def ZT (a0 : Int) (a1 : (List Int)) (r : Bool) : Prop := Cn a0 a1 fun x => r = x
theorem KV {a0 : Int} {a1 : (List Int)} {r : Bool} (h : ZT a0 a1 r) : Qq Tryz.prog 77 [.c (.v (.int .i64 a0)), .c (.l 1 (List.map (eI .i64) a1))] [.c (.p (.v (.bool r)))] [] := by
  refine Qn tb Tryz.func77 Z (by kernel_rfl) Z Z (Nat.le_of_ble_eq_true Z) Z ?_;intro E;unfold ZT Cn at h;refine Z3 (fun Q hQ => ?_);refine tD Z ?_;refine Z5 (fun (p1 : Unit) => (⟨[], []⟩ : St)) h (fun p1 h => ?_) (fun J1 L1 hL1 h => ?_)
  · refine tD Z ?_;obtain rfl := h;exact Qf (hQ _ _ (Zt Z Z))
  · refine tD Z ?_;refine Qt ?_;refine Zs (fun (s2 : Int) => (⟨[(0, .c (.p (.v (.int .i64 a0)))), (1, .c (.p (.l 1 (List.map (eI .i64) a1)))), (5, .c (.p (.v (.int .i64 s2))))], []⟩ : St)) h QB.fit (fun X2 L2 hL2 s2 h => ?_);refine sk fun L3 hL3 => ?_;refine tk fun L hL => ?_;refine dN 2 Z ?_;refine u0 QA ?_;refine dN 1 Z ?_;refine rt (hL _ ?_);refine cn h (fun h => ?_) fun h => ?_
    · refine Qi (hL3 _ ?_);refine sk fun L4 hL4 => ?_;refine Qt ?_;refine tk fun L hL => ?_;refine dN 2 Z ?_;obtain ⟨v5, hv5, h⟩ := h;refine u0 (QC hv5) ?_;refine dN 3 Z ?_;refine rt (hL _ ?_);refine cn h (fun h => ?_) fun h => ?_
      · refine tD Z ?_;obtain rfl := h;exact Qf (hQ _ _ (Zt Z Z))
      · refine Qi (hL4 _ ?_);refine tE Z (hL2 _ _ h QB.fit)
    · refine QT (hL1 _ _ h QB.fit)
def A8 (a0 : Int) (Q : Kt → Prop) : Prop :=
 ∃ v1, ZT a0 ([1, 2, 3, 5, 6, 7, 8, 16]) v1 ∧ ∃ v2, ZT a0 ([3, 7, 8]) v2 ∧ ∃ v3, ZT a0 ([9]) v3 ∧ ∃ v4, ZT a0 ([1]) v4 ∧ ∃ v5, ZT a0 ([6]) v5 ∧ ∃ v6, ZT a0 ([6, 7, 8]) v6 ∧ ∃ v7, ZT a0 ([8]) v7 ∧ ∃ v8, ZT a0 ([10, 11, 12, 15]) v8 ∧ ∃ v9, ZT a0 ([10, 12, 15]) v9 ∧ ∃ v10, ZT a0 ([13, 14]) v10 ∧ ∃ v11, ZT a0 ([13]) v11 ∧ ∃ v12, ZT a0 ([5, 10]) v12 ∧ ∃ v13, ZT a0 ([16]) v13 ∧ Q ((Kt.mk v1 v2 v3 v4 v5 v6 v7 v8 v9 v10 v11 v12 v13))
def YM (a0 : Int) (r : Kt) : Prop := A8 a0 fun x => r = x
theorem He {a0 : Int} {r : Kt} (h : YM a0 r) : Qq Tryz.prog 51 [.c (.v (.int .i64 a0))] [.agg [.p (.v (.bool r.fe0)), .p (.v (.bool r.fe1)), .p (.v (.bool r.fe2)), .p (.v (.bool r.fe3)), .p (.v (.bool r.fe4)), .p (.v (.bool r.fe5)), .p (.v (.bool r.fe6)), .p (.v (.bool r.fe7)), .p (.v (.bool r.fe8)), .p (.v (.bool r.fe9)), .p (.v (.bool r.fe10)), .p (.v (.bool r.fe11)), .p (.v (.bool r.fe12))]] [] := by
  refine Qn tb Tryz.func51 Z (by kernel_rfl) Z Z (Nat.le_of_ble_eq_true Z) Z ?_;intro E;unfold YM A8 at h;refine Z3 (fun Q hQ => ?_);refine tD Z ?_;refine tk fun L hL => ?_;refine dN 1 Z ?_;refine ul (QD (rows := List.map (eI .i64) [1, 2, 3, 5, 6, 7, 8, 16])) ?_;obtain ⟨v1, hv1, h⟩ := h;refine ul (Zi (KV hv1) (YG (K4.cons (.p Z) K4.nil)) Z Z (.cons (.c (.p _)) (.cons (.c (.fr Z (QG Z))) .nil))) ?_;refine dN 1 Z ?_;refine ul (QD (rows := List.map (eI .i64) [3, 7, 8])) ?_;obtain ⟨v2, hv2, h⟩ := h;refine ul (Zi (KV hv2) (YG (K4.cons (.p Z) K4.nil)) Z Z (.cons (.c (.p _)) (.cons (.c (.fr Z (QG Z))) .nil))) ?_;refine dN 1 Z ?_;refine ul (QD (rows := List.map (eI .i64) [9])) ?_;obtain ⟨v3, hv3, h⟩ := h;refine ul (Zi (KV hv3) (YG (K4.cons (.p Z) K4.nil)) Z Z (.cons (.c (.p _)) (.cons (.c (.fr Z (QG Z))) .nil))) ?_;refine dN 1 Z ?_;refine ul (QD (rows := List.map (eI .i64) [1])) ?_;obtain ⟨v4, hv4, h⟩ := h;refine ul (Zi (KV hv4) (YG (K4.cons (.p Z) K4.nil)) Z Z (.cons (.c (.p _)) (.cons (.c (.fr Z (QG Z))) .nil))) ?_;refine dN 1 Z ?_
  refine ul (QD (rows := List.map (eI .i64) [6])) ?_;obtain ⟨v5, hv5, h⟩ := h;refine ul (Zi (KV hv5) (YG (K4.cons (.p Z) K4.nil)) Z Z (.cons (.c (.p _)) (.cons (.c (.fr Z (QG Z))) .nil))) ?_;refine dN 1 Z ?_;refine ul (QD (rows := List.map (eI .i64) [6, 7, 8])) ?_;obtain ⟨v6, hv6, h⟩ := h;refine ul (Zi (KV hv6) (YG (K4.cons (.p Z) K4.nil)) Z Z (.cons (.c (.p _)) (.cons (.c (.fr Z (QG Z))) .nil))) ?_;refine dN 1 Z ?_;refine ul (QD (rows := List.map (eI .i64) [8])) ?_;obtain ⟨v7, hv7, h⟩ := h;refine ul (Zi (KV hv7) (YG (K4.cons (.p Z) K4.nil)) Z Z (.cons (.c (.p _)) (.cons (.c (.fr Z (QG Z))) .nil))) ?_;refine dN 1 Z ?_;refine ul (QD (rows := List.map (eI .i64) [10, 11, 12, 15])) ?_;obtain ⟨v8, hv8, h⟩ := h;refine ul (Zi (KV hv8) (YG (K4.cons (.p Z) K4.nil)) Z Z (.cons (.c (.p _)) (.cons (.c (.fr Z (QG Z))) .nil))) ?_;refine dN 1 Z ?_;refine ul (QD (rows := List.map (eI .i64) [10, 12, 15])) ?_;obtain ⟨v9, hv9, h⟩ := h;refine ul (Zi (KV hv9) (YG (K4.cons (.p Z) K4.nil)) Z Z (.cons (.c (.p _)) (.cons (.c (.fr Z (QG Z))) .nil))) ?_
  refine dN 1 Z ?_;refine ul (QD (rows := List.map (eI .i64) [13, 14])) ?_;obtain ⟨v10, hv10, h⟩ := h;refine ul (Zi (KV hv10) (YG (K4.cons (.p Z) K4.nil)) Z Z (.cons (.c (.p _)) (.cons (.c (.fr Z (QG Z))) .nil))) ?_;refine dN 1 Z ?_;refine ul (QD (rows := List.map (eI .i64) [13])) ?_;obtain ⟨v11, hv11, h⟩ := h;refine ul (Zi (KV hv11) (YG (K4.cons (.p Z) K4.nil)) Z Z (.cons (.c (.p _)) (.cons (.c (.fr Z (QG Z))) .nil))) ?_;refine dN 1 Z ?_;refine ul (QD (rows := List.map (eI .i64) [5, 10])) ?_;obtain ⟨v12, hv12, h⟩ := h;refine ul (Zi (KV hv12) (YG (K4.cons (.p Z) K4.nil)) Z Z (.cons (.c (.p _)) (.cons (.c (.fr Z (QG Z))) .nil))) ?_;refine dN 1 Z ?_;refine ul (QD (rows := List.map (eI .i64) [16])) ?_;obtain ⟨v13, hv13, h⟩ := h;refine ul (Zi (KV hv13) (YG (K4.cons (.p Z) K4.nil)) Z Z (.cons (.c (.p _)) (.cons (.c (.fr Z (QG Z))) .nil))) ?_;refine u0 (I5 (cs := [.p (.v (.bool v1)), .p (.v (.bool v2)), .p (.v (.bool v3)), .p (.v (.bool v4)), .p (.v (.bool v5)), .p (.v (.bool v6)), .p (.v (.bool v7)), .p (.v (.bool v8)), .p (.v (.bool v9)), .p (.v (.bool v10)), .p (.v (.bool v11)), .p (.v (.bool v12)), .p (.v (.bool v13))]) Z Z Z Z Z (by kernel_rfl)) ?_
  refine dN 1 Z ?_;refine rt (hL _ ?_);refine QS (st' := ⟨[(2, .c (.ptr (2, 0) 0 0))], [((2, 0), some (.box ([.p (.v (.bool v1)), .p (.v (.bool v2)), .p (.v (.bool v3)), .p (.v (.bool v4)), .p (.v (.bool v5)), .p (.v (.bool v6)), .p (.v (.bool v7)), .p (.v (.bool v8)), .p (.v (.bool v9)), .p (.v (.bool v10)), .p (.v (.bool v11)), .p (.v (.bool v12)), .p (.v (.bool v13))])))]⟩) QB.fit ?_;obtain rfl := h;exact Qf (hQ _ _ ⟨.inr Z, _, _, _, (.cons (.cella Z Z Z Z Z) .nil), (.cons (.agg (Qr (Qr (Qr (Qr (Qr (Qr (Qr (Qr (Qr (Qr (Qr (Qr (Qr .nil)))))))))))))) .nil), Z, Z⟩)
def U1 (a0 : Int) (a1 : Int) (a2 : Int) (Q : Bool → Prop) : Prop :=
 Q (((bif decide (a0 ≥ a1) then decide (a0 ≤ a2) else false)))
def JK (a0 : Int) (a1 : Int) (a2 : Int) (r : Bool) : Prop := U1 a0 a1 a2 fun x => r = x
theorem U2 {a0 : Int} {a1 : Int} {a2 : Int} {r : Bool} (h : JK a0 a1 a2 r) : Qq Tryz.prog 78 [.c (.v (.int .u8 a0)), .c (.v (.int .u8 a1)), .c (.v (.int .u8 a2))] [.c (.p (.v (.bool r)))] [] := by
  refine Qn tb Tryz.func78 Z (by kernel_rfl) Z Z (Nat.le_of_ble_eq_true Z) Z ?_;intro E;unfold JK U1 at h;refine Z3 (fun Q hQ => ?_);refine tD Z ?_;refine tk fun L hL => ?_;refine dN 4 Z ?_;refine Q2 Z Z Q6 (fun hg => Qd Z Z) ?_;refine Q2 Z Z Q6 (fun hg => Qd Z Z) ?_;refine Q2 Z Z Q6 (fun hg => Qz (c := decide (a0 ≤ a2)) (Qb hg) (Qb hg) Z Z Z) ?_;refine u0 (Ql (v := .bool (decide (a0 ≤ a2))) (w := .bool false) Z Z Q6 Z Qw) ?_;refine dN 1 Z ?_;refine rt (hL _ ?_);obtain rfl := h;exact Qf (hQ _ _ (Zt Z Z))
def Ur (a0 : ByteArray) (Q : Bool → Prop) : Prop :=
 ∃ (v2 : Int), ((!((bif decide (((a0.size : Int)) < 1) then true else decide (((a0.size : Int)) > 16)))) = true → bx a0 0 v2) ∧ ∃ (v3 : Bool), ((!((bif decide (((a0.size : Int)) < 1) then true else decide (((a0.size : Int)) > 16)))) = true → JK v2 97 122 v3) ∧ ((((bif (bif decide (((a0.size : Int)) < 1) then true else decide (((a0.size : Int)) > 16)) then true else !(v3))) = true → Q false) ∧ (((bif (bif decide (((a0.size : Int)) < 1) then true else decide (((a0.size : Int)) > 16)) then true else !(v3))) = false → jn (fun (p4 : Unit) => Q true) (fun (J4 : Unit → Prop) => lp (fun (X5 : Int → Prop) (s5 : Int) => (((decide (s5 < ((a0.size : Int)))) = true → ∃ v8, bx a0 s5 v8 ∧ ∃ v9, JK v8 97 122 v9 ∧ ∃ (v10 : Int), ((!(v9)) = true → bx a0 s5 v10) ∧ ∃ (v11 : Bool), ((!(v9)) = true → JK v10 48 57 v11) ∧ ∃ (v12 : Int), (((bif !(v9) then !(v11) else false)) = true → bx a0 s5 v12) ∧ ∃ (v13 : Int), (((bif (bif !(v9) then !(v11) else false) then (v12 != 45) else false)) = true → bx a0 s5 v13) ∧ ((((bif (bif (bif !(v9) then !(v11) else false) then (v12 != 45) else false) then (v13 != 46) else false)) = true → Q false) ∧ (((bif (bif (bif !(v9) then !(v11) else false) then (v12 != 45) else false) then (v13 != 46) else false)) = false → X5 ((IntKind.i64.wrap (s5 + 1)))))) ∧ ((decide (s5 < ((a0.size : Int)))) = false → J4 (())))) 0)))
def V7 (a0 : ByteArray) (r : Bool) : Prop := Ur a0 fun x => r = x
theorem Us {a0 : ByteArray} {r : Bool} (h : V7 a0 r) : Qq Tryz.prog 52 [.c (.v (.string a0))] [.c (.p (.v (.bool r)))] [] := by
  refine Qn tb Tryz.func52 Z (by kernel_rfl) Z Z (Nat.le_of_ble_eq_true Z) Z ?_;intro E;unfold V7 Ur at h;refine Z3 (fun Q hQ => ?_);refine tD Z ?_;refine sk fun L1 hL1 => ?_;refine tk fun L hL => ?_;refine dN 1 Z ?_;refine u0 Kh ?_;refine dN 2 Z ?_;refine Q2 Z Z Q4 (fun hg => Qd Z Z) ?_;refine Q2 Z Z Q4 (fun hg => Kh (Qb hg) Z Z Z) ?_;refine Q2 Z Z Q4 (fun hg => Qz (c := decide (((a0.size : Int)) > 16)) (Qb hg) Z Z Z Z) ?_;refine u0 (Qm (v := .bool true) (w := .bool (decide (((a0.size : Int)) > 16))) Z Z Q4 Z Qw) ?_;refine dN 1 Z ?_;refine Q2 Z Z Q4 (fun hg => Qd Z Z) ?_;obtain ⟨v2, hv2, h⟩ := h;refine Q2 Z Z Q4 (fun hg => Vw (hv2 hg) (Qb hg) Z Z Z Z Z) ?_;obtain ⟨v3, hv3, h⟩ := h;refine Q2 Z Z Q4 (fun hg => QN (U2 (hv3 hg)) Z Z (.cons (Zh hg (.c (.p _))) (.cons (.c (.p _)) (.cons (.c (.p _)) .nil))) Z Z Z) ?_;refine Q2 Z Z Q4 (fun hg => Z4 (Qb hg) Z Z) ?_;refine u0 (Qm (v := .bool true) (w := .bool (!(v3))) Z Z Q4 Z Qw) ?_;refine rt (hL _ ?_);refine cn h (fun h => ?_) fun h => ?_
  · refine tD Z ?_;obtain rfl := h;exact Qf (hQ _ _ (Zt Z Z))
  · refine Qi (hL1 _ ?_);refine QS (st' := ⟨[(0, .c (.p (.v (.string a0))))], []⟩) QB.fit ?_;refine Z5 (fun (p4 : Unit) => (⟨[], []⟩ : St)) h (fun p4 h => ?_) (fun J4 L4 hL4 h => ?_)
    · refine tD Z ?_;obtain rfl := h;exact Qf (hQ _ _ (Zt Z Z))
    · refine tD Z ?_;refine Qt ?_;refine Zs (fun (s5 : Int) => (⟨[(0, .c (.p (.v (.string a0)))), (3, .c (.p (.v (.int .i64 s5))))], []⟩ : St)) h QB.fit (fun X5 L5 hL5 s5 h => ?_);refine sk fun L6 hL6 => ?_;refine tk fun L hL => ?_;refine dN 2 Z ?_;refine u0 Kh ?_;refine dN 1 Z ?_;refine rt (hL _ ?_);refine cn h (fun h => ?_) fun h => ?_
      · refine Qi (hL6 _ ?_);refine sk fun L7 hL7 => ?_;refine Qt ?_;refine tk fun L hL => ?_;refine dN 2 Z ?_;obtain ⟨v8, hv8, h⟩ := h;refine u0 (Vw hv8) ?_;obtain ⟨v9, hv9, h⟩ := h;refine u0 (QQ (U2 hv9)) ?_;refine dN 2 Z ?_;refine Q2 Z Z Q6 (fun hg => Qd Z Z) ?_;refine Q2 Z Z Q6 (fun hg => Qd Z Z) ?_;obtain ⟨v10, hv10, h⟩ := h;refine Q2 Z Z Q6 (fun hg => Vw (hv10 hg) (Qb hg) (Qb hg) Z Z Z Z) ?_;obtain ⟨v11, hv11, h⟩ := h;refine Q2 Z Z Q6 (fun hg => QN (U2 (hv11 hg)) Z Z (.cons (Zh hg (.c (.p _))) (.cons (.c (.p _)) (.cons (.c (.p _)) .nil))) Z Z Z) ?_;refine Q2 Z Z Q6 (fun hg => Z4 (Qb hg) Z Z) ?_;refine u0 (Ql (v := .bool (!(v11))) (w := .bool false) Z Z Q6 Z Qw) ?_;refine dN 1 Z ?_;refine Q2 Z Z Q6 (fun hg => Qd Z Z) ?_;refine Q2 Z Z Q6 (fun hg => Qd Z Z) ?_;obtain ⟨v12, hv12, h⟩ := h;refine Q2 Z Z Q6 (fun hg => Vw (hv12 hg) (Qb hg) (Qb hg) Z Z Z Z) ?_;refine Q2 Z Z Q6 (fun hg => Qz (c := (v12 != 45)) (Qb hg) Z Z Z Z) ?_;refine u0 (Ql (v := .bool ((v12 != 45))) (w := .bool false) Z Z Q6 Z Qw) ?_
        refine dN 1 Z ?_;refine Q2 Z Z Q6 (fun hg => Qd Z Z) ?_;refine Q2 Z Z Q6 (fun hg => Qd Z Z) ?_;obtain ⟨v13, hv13, h⟩ := h;refine Q2 Z Z Q6 (fun hg => Vw (hv13 hg) (Qb hg) (Qb hg) Z Z Z Z) ?_;refine Q2 Z Z Q6 (fun hg => Qz (c := (v13 != 46)) (Qb hg) Z Z Z Z) ?_;refine u0 (Ql (v := .bool ((v13 != 46))) (w := .bool false) Z Z Q6 Z Qw) ?_;refine rt (hL _ ?_);refine cn h (fun h => ?_) fun h => ?_
        · refine tD Z ?_;obtain rfl := h;exact Qf (hQ _ _ (Zt Z Z))
        · refine Qi (hL7 _ ?_);refine QS (st' := ⟨[(0, .c (.p (.v (.string a0)))), (3, .c (.p (.v (.int .i64 s5))))], []⟩) QB.fit ?_;refine tE Z (hL5 _ _ h QB.fit)
      · refine QT (hL4 _ _ h QB.fit)
def Ut (a0 : Qo) (a1 : Bool) (a2 : Bool) (Q : Int → Prop) : Prop :=
 jn (fun (p1 : Unit) => jn (fun (p9 : Unit) => Q 0) (fun (J9 : Unit → Prop) => ((a2 = true → ∃ v11, Zp ((a0.f0.length : Int)) 1 64 v11 ∧ (((!(v11)) = true → Q 5) ∧ ((!(v11)) = false → lp (fun (X12 : Int → Prop) (s12 : Int) => (((decide (s12 < ((a0.f0.length : Int)))) = true → ∃ v15, ix a0.f0 s12 v15 ∧ ∃ v16, Z7 v15 v16 ∧ ((((v16 != 0)) = true → Q v16) ∧ (((v16 != 0)) = false → X12 ((IntKind.i64.wrap (s12 + 1)))))) ∧ ((decide (s12 < ((a0.f0.length : Int)))) = false → J9 (())))) 0))) ∧ (a2 = false → J9 (()))))) (fun (J1 : Unit → Prop) => ((a1 = true → ∃ v3, Zp ((a0.fa0.length : Int)) 1 16 v3 ∧ (((!(v3)) = true → Q 5) ∧ ((!(v3)) = false → lp (fun (X4 : Int → Prop) (s4 : Int) => (((decide (s4 < ((a0.fa0.length : Int)))) = true → ∃ v7, ix a0.fa0 s4 v7 ∧ ∃ v8, V7 v7 v8 ∧ (((!(v8)) = true → Q 6) ∧ ((!(v8)) = false → X4 ((IntKind.i64.wrap (s4 + 1)))))) ∧ ((decide (s4 < ((a0.fa0.length : Int)))) = false → J1 (())))) 0))) ∧ (a1 = false → J1 (()))))
def Jt (a0 : Qo) (a1 : Bool) (a2 : Bool) (r : Int) : Prop := Ut a0 a1 a2 fun x => r = x
theorem BK {a0 : Qo} {a1 : Bool} {a2 : Bool} {r : Int} (h : Jt a0 a1 a2 r) : Qq Tryz.prog 53 [.agg (Zf a0), .c (.v (.bool a1)), .c (.v (.bool a2))] [.c (.p (.v (.int .i64 r)))] [] := by
  refine Qn tb Tryz.func53 Z (by kernel_rfl) Z Z (Nat.le_of_ble_eq_true Z) Z ?_;intro E;unfold Jt Ut at h;refine Z3 (fun Q hQ => ?_);refine tD Z ?_;refine Z5 (fun (p1 : Unit) => (⟨[(2, .c (.p (.v (.bool a2)))), (3, .c (.ptr (3, 0) 0 0))], [((3, 0), some (.box (List.map CV.p (Zf a0))))]⟩ : St)) h (fun p1 h => ?_) (fun J1 L1 hL1 h => ?_)
  · refine Z5 (fun (p9 : Unit) => (⟨[], []⟩ : St)) h (fun p9 h => ?_) (fun J9 L9 hL9 h => ?_)
    · refine tD Z ?_;obtain rfl := h;exact Qf (hQ _ _ (Zt Z Z))
    · refine tD Z ?_;refine cn h (fun h => ?_) fun h => ?_
      · refine sk fun L10 hL10 => ?_;refine tk fun L hL => ?_;refine dN 2 Z ?_;refine u0 QA ?_;obtain ⟨v11, hv11, h⟩ := h;refine u0 (QQ (Kw hv11)) ?_;refine dN 1 Z ?_;refine rt (hL _ ?_);refine cn h (fun h => ?_) fun h => ?_
        · refine tD Z ?_;obtain rfl := h;exact Qf (hQ _ _ (Zt Z Z))
        · refine Qi (hL10 _ ?_);refine tD Z ?_;refine Qt ?_;refine Zs (fun (s12 : Int) => (⟨[(3, .c (.ptr (3, 0) 0 0)), (8, .c (.p (.v (.int .i64 s12))))], [((3, 0), some (.box (List.map CV.p (Zf a0))))]⟩ : St)) h QB.fit (fun X12 L12 hL12 s12 h => ?_);refine sk fun L13 hL13 => ?_;refine tk fun L hL => ?_;refine dN 3 Z ?_;refine u0 QA ?_;refine dN 1 Z ?_;refine rt (hL _ ?_);refine cn h (fun h => ?_) fun h => ?_
          · refine Qi (hL13 _ ?_);refine sk fun L14 hL14 => ?_;refine Qt ?_;refine tk fun L hL => ?_;refine dN 3 Z ?_;obtain ⟨v15, hv15, h⟩ := h;refine u0 (QC hv15) ?_;refine dN 1 Z ?_;obtain ⟨v16, hv16, h⟩ := h;refine u0 (QQ (ZH hv16)) ?_;refine dN 1 Z ?_;refine rt (hL _ ?_);refine tD Z ?_;refine cn h (fun h => ?_) fun h => ?_
            · refine tD Z ?_;obtain rfl := h;exact Qf (hQ _ _ (Zt Z Z))
            · refine Qi (hL14 _ ?_);refine tE Z (hL12 _ _ h QB.fit)
          · refine QT (hL9 _ _ h QB.fit)
      · refine Qi (hL9 _ _ h QB.fit)
  · refine tD Z ?_;refine cn h (fun h => ?_) fun h => ?_
    · refine sk fun L2 hL2 => ?_;refine tk fun L hL => ?_;refine dN 2 Z ?_;refine u0 QA ?_;obtain ⟨v3, hv3, h⟩ := h;refine u0 (QQ (Kw hv3)) ?_;refine dN 1 Z ?_;refine rt (hL _ ?_);refine cn h (fun h => ?_) fun h => ?_
      · refine tD Z ?_;obtain rfl := h;exact Qf (hQ _ _ (Zt Z Z))
      · refine Qi (hL2 _ ?_);refine tD Z ?_;refine Qt ?_;refine Zs (fun (s4 : Int) => (⟨[(2, .c (.p (.v (.bool a2)))), (3, .c (.ptr (3, 0) 0 0)), (7, .c (.p (.v (.int .i64 s4))))], [((3, 0), some (.box (List.map CV.p (Zf a0))))]⟩ : St)) h QB.fit (fun X4 L4 hL4 s4 h => ?_);refine sk fun L5 hL5 => ?_;refine tk fun L hL => ?_;refine dN 3 Z ?_;refine u0 QA ?_;refine dN 1 Z ?_;refine rt (hL _ ?_);refine cn h (fun h => ?_) fun h => ?_
        · refine Qi (hL5 _ ?_);refine sk fun L6 hL6 => ?_;refine Qt ?_;refine tk fun L hL => ?_;refine dN 3 Z ?_;obtain ⟨v7, hv7, h⟩ := h;refine u0 (QC hv7) ?_;refine dN 1 Z ?_;obtain ⟨v8, hv8, h⟩ := h;refine u0 (QQ (Us hv8)) ?_;refine dN 1 Z ?_;refine rt (hL _ ?_);refine cn h (fun h => ?_) fun h => ?_
          · refine tD Z ?_;obtain rfl := h;exact Qf (hQ _ _ (Zt Z Z))
          · refine Qi (hL6 _ ?_);refine tE Z (hL4 _ _ h QB.fit)
        · refine QT (hL1 _ _ h QB.fit)
    · refine Qi (hL1 _ _ h QB.fit)
def Xe (a0 : Qu) (Q : Int → Prop) : Prop :=
 ∃ v2, Zy a0.fk 1 7 v2 ∧ (((!(v2)) = true → Q 8) ∧ ((!(v2)) = false → ∃ (v3 : Bool), (((bif (a0.fk == 2) then true else (a0.fk == 6))) = true → Kv a0.fa4 v3) ∧ ((((bif (bif (a0.fk == 2) then true else (a0.fk == 6)) then !(v3) else false)) = true → Q 7) ∧ (((bif (bif (a0.fk == 2) then true else (a0.fk == 6)) then !(v3) else false)) = false → ∃ (v4 : Bool), (((a0.fk == 5)) = true → Zy a0.fv 0 32 v4) ∧ ((((bif (a0.fk == 5) then !(v4) else false)) = true → Q 5) ∧ (((bif (a0.fk == 5) then !(v4) else false)) = false → ∃ (v5 : Bool), (((a0.fk == 7)) = true → Zy a0.fb8 1 1000000 v5) ∧ ∃ (v6 : Bool), ((((a0.fk == 7) && !(!(v5)))) = true → Zy a0.fb9 0 a0.fb8 v6) ∧ ((((bif (a0.fk == 7) then (bif !(v5) then true else !(v6)) else false)) = true → Q 5) ∧ (((bif (a0.fk == 7) then (bif !(v5) then true else !(v6)) else false)) = false → ((((bif (bif (bif !((bif (a0.fk == 2) then true else (a0.fk == 6))) then (!(a0.fa4.toList == ((⟨#[]⟩ : ByteArray)).toList)) else false) then true else (bif (a0.fk != 5) then (a0.fv != 0) else false)) then true else (bif (a0.fk != 7) then (bif (a0.fb9 != 0) then true else (a0.fb8 != 0)) else false))) = true → Q 18) ∧ (((bif (bif (bif !((bif (a0.fk == 2) then true else (a0.fk == 6))) then (!(a0.fa4.toList == ((⟨#[]⟩ : ByteArray)).toList)) else false) then true else (bif (a0.fk != 5) then (a0.fv != 0) else false)) then true else (bif (a0.fk != 7) then (bif (a0.fb9 != 0) then true else (a0.fb8 != 0)) else false))) = false → Q 0))))))))))
def Ka (a0 : Qu) (r : Int) : Prop := Xe a0 fun x => r = x
theorem Ay {a0 : Qu} {r : Int} (h : Ka a0 r) : Qq Tryz.prog 55 [.agg (Wr a0)] [.c (.p (.v (.int .i64 r)))] [] := by
  refine Qn tb Tryz.func55 Z (by kernel_rfl) Z Z (Nat.le_of_ble_eq_true Z) Z ?_;intro E;unfold Ka Xe at h;refine Z3 (fun Q hQ => ?_);refine tD Z ?_;refine tk fun L hL => ?_;refine dN 4 Z ?_;refine Q2 Z Z Q4 (fun hg => Q7 Z Z Z Z Z Z Z Z Z) ?_;refine Q2 Z Z Q4 (fun hg => Q3 (Qb hg) Z Z Z Z Z) ?_;refine Q2 Z Z Q4 (fun hg => Qz (c := (a0.fk == 6)) (Qb hg) Z Z Z Z) ?_;refine u0 (Qm (v := .bool true) (w := .bool ((a0.fk == 6))) Z Z Q4 Z Qw) ?_;refine dN 1 Z ?_;refine rt (hL _ ?_);refine sk fun L1 hL1 => ?_;refine Qt ?_;refine tk fun L hL => ?_;refine dN 2 Z ?_;obtain ⟨v2, hv2, h⟩ := h;refine u0 (QQ (Ku hv2)) ?_;refine dN 2 Z ?_;refine rt (hL _ ?_);refine cn h (fun h => ?_) fun h => ?_
  · refine tD Z ?_;obtain rfl := h;exact Qf (hQ _ _ (Zt Z Z))
  · refine tk fun L hL => ?_;refine dN 2 Z ?_;refine Q2 Z Z Q6 (fun hg => Q7 Z Z Z Z Z Z Z Z Z) ?_;refine Q2 Z Z Q6 (fun hg => Q3 (Qb hg) Z Z Z Z Z) ?_;obtain ⟨v3, hv3, h⟩ := h;refine Q2 Z Z Q6 (fun hg => QN (VG (hv3 hg)) Z Z (.cons (Zh hg (.c (.p _))) .nil) Z Z Z) ?_;refine Q2 Z Z Q6 (fun hg => Z4 (Qb hg) Z Z) ?_;refine u0 (Ql (v := .bool (!(v3))) (w := .bool false) Z Z Q6 Z Qw) ?_;refine dN 1 Z ?_;refine rt (hL _ ?_);refine cn h (fun h => ?_) fun h => ?_
    · refine tD Z ?_;obtain rfl := h;exact Qf (hQ _ _ (Zt Z Z))
    · refine tk fun L hL => ?_;refine dN 4 Z ?_;refine Q2 Z Z Q6 (fun hg => Q7 Z Z Z Z Z Z Z Z Z) ?_;refine Q2 Z Z Q6 (fun hg => Q3 (Qb hg) Z Z Z Z Z) ?_;obtain ⟨v4, hv4, h⟩ := h;refine Q2 Z Z Q6 (fun hg => QN (Ku (hv4 hg)) Z Z (.cons (Zh hg (.c (.p _))) (.cons (.c (.p _)) (.cons (.c (.p _)) .nil))) Z Z Z) ?_;refine Q2 Z Z Q6 (fun hg => Z4 (Qb hg) Z Z) ?_;refine u0 (Ql (v := .bool (!(v4))) (w := .bool false) Z Z Q6 Z Qw) ?_;refine dN 1 Z ?_;refine rt (hL _ ?_);refine cn h (fun h => ?_) fun h => ?_
      · refine tD Z ?_;obtain rfl := h;exact Qf (hQ _ _ (Zt Z Z))
      · refine tk fun L hL => ?_;refine dN 4 Z ?_;refine Q2 Z Z Q6 (fun hg => Q7 Z Z Z Z Z Z Z Z Z) ?_;refine Q2 Z Z Q6 (fun hg => Q3 (Qb hg) Z Z Z Z Z) ?_;obtain ⟨v5, hv5, h⟩ := h;refine Q2 Z Z Q6 (fun hg => QN (Ku (hv5 hg)) Z Z (.cons (Zh hg (.c (.p _))) (.cons (.c (.p _)) (.cons (.c (.p _)) .nil))) Z Z Z) ?_;refine Q2 Z Z Q6 (fun hg => Z4 (Qb hg) Z Z) ?_;refine Q2 Z Z Q6 (fun hg => Qd (Qb hg) Z) ?_;refine QE Z Z K1 (fun hg => Q7 Z Z Z Z Z Z Z Z Z) ?_;refine QE Z Z K1 (fun hg => Q3 (Qb hg) Z Z Z Z Z) ?_;refine QE Z Z K1 (fun hg => Q7 Z Z Z Z Z Z Z Z Z) ?_;refine QE Z Z K1 (fun hg => Q3 (Qb hg) Z Z Z Z Z) ?_;obtain ⟨v6, hv6, h⟩ := h;refine QE Z Z K1 (fun hg => QN (Ku (hv6 hg)) Z Z (.cons (Zh hg (.c (.p _))) (.cons (.c (.p _)) (.cons (Zh hg (.c (.p _))) .nil))) Z Z Z) ?_;refine QE Z Z K1 (fun hg => Z4 (Qb hg) Z Z) ?_;refine Q2 Z Z Q6 (fun hg => Qm (v := .bool true) (w := .bool (!(v6))) (Qb hg) Z (US hg) Z Qw Z Z Z) ?_;refine u0 (Ql (v := .bool ((bif !(v5) then true else !(v6)))) (w := .bool false) Z Z Q6 Z Qw) ?_
        refine dN 1 Z ?_;refine rt (hL _ ?_);refine QS (st' := ⟨[(1, .c (.ptr (1, 0) 0 0)), (3, .c (.p (.v (.bool ((bif (a0.fk == 2) then true else (a0.fk == 6))))))), (35, .c (.p (.v (.bool ((bif (a0.fk == 7) then (bif !(v5) then true else !(v6)) else false))))))], [((1, 0), some (.box (List.map CV.p (Wr a0))))]⟩) QB.fit ?_;refine cn h (fun h => ?_) fun h => ?_
        · refine tD Z ?_;obtain rfl := h;exact Qf (hQ _ _ (Zt Z Z))
        · refine tk fun L hL => ?_;refine dN 3 Z ?_;refine Q2 Z Z Q6 (fun hg => Q7 Z Z Z Z Z Z Z Z Z) ?_;refine Q2 Z Z Q6 (fun hg => Q3 (Qb hg) Z Z Z Z Z) ?_;refine Q2 Z Z Q6 (fun hg => Vy (c := (!(a0.fa4.toList == ((⟨#[]⟩ : ByteArray)).toList))) (Qb hg) Z Z Z Z) ?_;refine u0 (Ql (v := .bool ((!(a0.fa4.toList == ((⟨#[]⟩ : ByteArray)).toList)))) (w := .bool false) Z Z Q6 Z Qw) ?_;refine dN 1 Z ?_;refine Q2 Z Z Q4 (fun hg => Q7 Z Z Z Z Z Z Z Z Z) ?_;refine Q2 Z Z Q4 (fun hg => Q3 (Qb hg) Z Z Z Z Z) ?_;refine Q2 Z Z Q4 (fun hg => Qz (c := (a0.fk != 5)) (Qb hg) Z Z Z Z) ?_;refine Q2 Z Z Q4 (fun hg => Qd (Qb hg) Z) ?_;refine QE Z Z QO (fun hg => Q7 Z Z Z Z Z Z Z Z Z) ?_;refine QE Z Z QO (fun hg => Q3 (Qb hg) Z Z Z Z Z) ?_;refine QE Z Z QO (fun hg => Qz (c := (a0.fv != 0)) (Qb hg) Z Z Z Z) ?_;refine Q2 Z Z Q4 (fun hg => Ql (v := .bool ((a0.fv != 0))) (w := .bool false) (Qb hg) Z (JC hg) Z Qw Z Z Z) ?_;refine u0 (Qm (v := .bool true) (w := .bool ((bif (a0.fk != 5) then (a0.fv != 0) else false))) Z Z Q4 Z Qw) ?_
          refine dN 1 Z ?_;refine Q2 Z Z Q4 (fun hg => Q7 Z Z Z Z Z Z Z Z Z) ?_;refine Q2 Z Z Q4 (fun hg => Q3 (Qb hg) Z Z Z Z Z) ?_;refine Q2 Z Z Q4 (fun hg => Qz (c := (a0.fk != 7)) (Qb hg) Z Z Z Z) ?_;refine Q2 Z Z Q4 (fun hg => Qd (Qb hg) Z) ?_;refine QE Z Z QO (fun hg => Q7 Z Z Z Z Z Z Z Z Z) ?_;refine QE Z Z QO (fun hg => Q3 (Qb hg) Z Z Z Z Z) ?_;refine QE Z Z QO (fun hg => Qz (c := (a0.fb9 != 0)) (Qb hg) Z Z Z Z) ?_;refine QE Z Z QO (fun hg => Qd (Qb hg) Z) ?_;refine QE Z Z K1 (fun hg => Q7 Z Z Z Z Z Z Z Z Z) ?_;refine QE Z Z K1 (fun hg => Q3 (Qb hg) Z Z Z Z Z) ?_;refine QE Z Z K1 (fun hg => Qz (c := (a0.fb8 != 0)) (Qb hg) Z Z Z Z) ?_;refine QE Z Z QO (fun hg => Qm (v := .bool true) (w := .bool ((a0.fb8 != 0))) (Qb hg) Z (US hg) Z Qw Z Z Z) ?_;refine Q2 Z Z Q4 (fun hg => Ql (v := .bool ((bif (a0.fb9 != 0) then true else (a0.fb8 != 0)))) (w := .bool false) (Qb hg) Z (JC hg) Z Qw Z Z Z) ?_;refine u0 (Qm (v := .bool true) (w := .bool ((bif (a0.fk != 7) then (bif (a0.fb9 != 0) then true else (a0.fb8 != 0)) else false))) Z Z Q4 Z Qw) ?_
          refine dN 1 Z ?_;refine rt (hL _ ?_);refine cn h (fun h => ?_) fun h => ?_
          · refine tD Z ?_;obtain rfl := h;exact Qf (hQ _ _ (Zt Z Z))
          · refine Qi (hL1 _ ?_);refine QS (st' := ⟨[], []⟩) QB.fit ?_;refine tD Z ?_;obtain rfl := h;exact Qf (hQ _ _ (Zt Z Z))
def Wa (a0 : Qo) (Q : Int → Prop) : Prop :=
 ∃ v2, Zp a0.fk 1 17 v2 ∧ (((!(v2)) = true → Q 8) ∧ ((!(v2)) = false → ∃ v3, YM a0.fk v3 ∧ ∃ (v5 : Bool), (v3.fe0 = true → V7 a0.fb4 v5) ∧ ∃ (v6 : Bool), (((!((bif v3.fe0 then !(v5) else false)) && v3.fe1)) = true → V7 a0.fi v6) ∧ ((((bif (bif v3.fe0 then !(v5) else false) then true else (bif v3.fe1 then !(v6) else false))) = true → Q 6) ∧ (((bif (bif v3.fe0 then !(v5) else false) then true else (bif v3.fe1 then !(v6) else false))) = false → ∃ v8, Jt a0 v3.fe2 false v8 ∧ ((((v8 != 0)) = true → Q v8) ∧ (((v8 != 0)) = false → jn (fun (p9 : Unit) => ∃ v12, Jt a0 false v3.fe4 v12 ∧ ((((v12 != 0)) = true → Q v12) ∧ (((v12 != 0)) = false → ((((bif v3.fe5 then decide (((a0.fb0.length : Int)) > 64) else false)) = true → Q 11) ∧ (((bif v3.fe5 then decide (((a0.fb0.length : Int)) > 64) else false)) = false → ∃ (v15 : Bool), (v3.fe6 = true → Zp a0.f9 1 1048576 v15) ∧ ∃ (v16 : Bool), (((v3.fe6 && !(!(v15)))) = true → Zp a0.fa6 1 1048576 v16) ∧ ((((bif v3.fe6 then (bif !(v15) then true else !(v16)) else false)) = true → Q 5) ∧ (((bif v3.fe6 then (bif !(v15) then true else !(v16)) else false)) = false → ∃ (v18 : Bool), (v3.fe7 = true → Zp a0.fa1 0 3 v18) ∧ ∃ (v19 : Bool), (((!((bif v3.fe7 then !(v18) else false)) && v3.fe8)) = true → Zp a0.fb1 0 15 v19) ∧ ∃ (v20 : Bool), (((!((bif (bif v3.fe7 then !(v18) else false) then true else (bif v3.fe8 then !(v19) else false))) && v3.fe9)) = true → Zp a0.fa2 0 3 v20) ∧ ∃ (v21 : Bool), (((!((bif (bif (bif v3.fe7 then !(v18) else false) then true else (bif v3.fe8 then !(v19) else false)) then true else (bif v3.fe9 then !(v20) else false))) && v3.fe10)) = true → Zp a0.fv 0 32 v21) ∧ ((((bif (bif (bif (bif v3.fe7 then !(v18) else false) then true else (bif v3.fe8 then !(v19) else false)) then true else (bif v3.fe9 then !(v20) else false)) then true else (bif v3.fe10 then !(v21) else false))) = true → Q 5) ∧ (((bif (bif (bif (bif v3.fe7 then !(v18) else false) then true else (bif v3.fe8 then !(v19) else false)) then true else (bif v3.fe9 then !(v20) else false)) then true else (bif v3.fe10 then !(v21) else false))) = false → jn (fun (p22 : Unit) => ((((bif v3.fe12 then decide (((a0.fb3.length : Int)) > 65536) else false)) = true → Q 11) ∧ (((bif v3.fe12 then decide (((a0.fb3.length : Int)) > 65536) else false)) = false → ((((bif (bif (bif (bif (bif (bif (bif (bif (bif (bif (bif (bif (bif !(v3.fe0) then (!(a0.fb4.toList == ((⟨#[]⟩ : ByteArray)).toList)) else false) then true else (bif !(v3.fe1) then (!(a0.fi.toList == ((⟨#[]⟩ : ByteArray)).toList)) else false)) then true else (bif !(v3.fe2) then decide (((a0.fa0.length : Int)) > 0) else false)) then true else (bif !(v3.fe3) then (!((a0.fa.fk == 0) && ((a0.fa.fg == 0) && ((a0.fa.fu == 0) && ((a0.fa.fw == 0) && true))))) else false)) then true else (bif !(v3.fe4) then decide (((a0.f0.length : Int)) > 0) else false)) then true else (bif !(v3.fe5) then decide (((a0.fb0.length : Int)) > 0) else false)) then true else (bif !(v3.fe6) then (bif (a0.f9 != 0) then true else (a0.fa6 != 0)) else false)) then true else (bif !(v3.fe7) then (a0.fa1 != 0) else false)) then true else (bif !(v3.fe8) then (a0.fb1 != 0) else false)) then true else (bif !(v3.fe9) then (a0.fa2 != 0) else false)) then true else (bif !(v3.fe10) then (a0.fv != 0) else false)) then true else (bif !(v3.fe11) then (!((a0.fo.fk == 0) && ((a0.fo.fa4.toList == ByteArray.empty.toList) && ((a0.fo.fv == 0) && ((a0.fo.fb9 == 0) && ((a0.fo.fb8 == 0) && true)))))) else false)) then true else (bif !(v3.fe12) then decide (((a0.fb3.length : Int)) > 0) else false))) = true → Q 18) ∧ (((bif (bif (bif (bif (bif (bif (bif (bif (bif (bif (bif (bif (bif !(v3.fe0) then (!(a0.fb4.toList == ((⟨#[]⟩ : ByteArray)).toList)) else false) then true else (bif !(v3.fe1) then (!(a0.fi.toList == ((⟨#[]⟩ : ByteArray)).toList)) else false)) then true else (bif !(v3.fe2) then decide (((a0.fa0.length : Int)) > 0) else false)) then true else (bif !(v3.fe3) then (!((a0.fa.fk == 0) && ((a0.fa.fg == 0) && ((a0.fa.fu == 0) && ((a0.fa.fw == 0) && true))))) else false)) then true else (bif !(v3.fe4) then decide (((a0.f0.length : Int)) > 0) else false)) then true else (bif !(v3.fe5) then decide (((a0.fb0.length : Int)) > 0) else false)) then true else (bif !(v3.fe6) then (bif (a0.f9 != 0) then true else (a0.fa6 != 0)) else false)) then true else (bif !(v3.fe7) then (a0.fa1 != 0) else false)) then true else (bif !(v3.fe8) then (a0.fb1 != 0) else false)) then true else (bif !(v3.fe9) then (a0.fa2 != 0) else false)) then true else (bif !(v3.fe10) then (a0.fv != 0) else false)) then true else (bif !(v3.fe11) then (!((a0.fo.fk == 0) && ((a0.fo.fa4.toList == ByteArray.empty.toList) && ((a0.fo.fv == 0) && ((a0.fo.fb9 == 0) && ((a0.fo.fb8 == 0) && true)))))) else false)) then true else (bif !(v3.fe12) then decide (((a0.fb3.length : Int)) > 0) else false))) = false → Q 0))))) (fun (J22 : Unit → Prop) => ((v3.fe11 = true → ∃ v23, Ka a0.fo v23 ∧ ((((v23 != 0)) = true → Q v23) ∧ (((v23 != 0)) = false → J22 (())))) ∧ (v3.fe11 = false → J22 (()))))))))))))) (fun (J9 : Unit → Prop) => ((v3.fe3 = true → ∃ v10, Zo a0.fa v10 ∧ ((((v10 != 0)) = true → Q v10) ∧ (((v10 != 0)) = false → J9 (())))) ∧ (v3.fe3 = false → J9 (()))))))))))
def JA (a0 : Qo) (r : Int) : Prop := Wa a0 fun x => r = x
theorem UJ {a0 : Qo} {r : Int} (h : JA a0 r) : Qq Tryz.prog 34 [.agg (Zf a0)] [.c (.p (.v (.int .i64 r)))] [] := by
  refine Qn tb Tryz.func34 Z (by kernel_rfl) Z Z (Nat.le_of_ble_eq_true Z) Z ?_;intro E;unfold JA Wa at h;refine Z3 (fun Q hQ => ?_);refine tD Z ?_;refine sk fun L1 hL1 => ?_;refine tk fun L hL => ?_;refine dN 2 Z ?_;obtain ⟨v2, hv2, h⟩ := h;refine u0 (QQ (Kw hv2)) ?_;refine dN 1 Z ?_;refine rt (hL _ ?_);refine cn h (fun h => ?_) fun h => ?_
  · refine tD Z ?_;obtain rfl := h;exact Qf (hQ _ _ (Zt Z Z))
  · refine Qi (hL1 _ ?_);refine tk fun L hL => ?_;refine dN 2 Z ?_;obtain ⟨v3, hv3, h⟩ := h;refine u0 (QQ (He hv3)) ?_;refine dN 2 Z ?_;refine rt (hL _ ?_);refine sk fun L4 hL4 => ?_;refine tk fun L hL => ?_;refine u0 (QX (j := 0) Z Z Z Z (by decide) Z Z Z Z Z Z) ?_;refine dN 2 Z ?_;refine Q2 Z Z Q6 (fun hg => Q7 Z Z Z Z Z Z Z Z Z) ?_;refine Q2 Z Z Q6 (fun hg => Q3 (Qb hg) Z Z Z Z Z) ?_;obtain ⟨v5, hv5, h⟩ := h;refine Q2 Z Z Q6 (fun hg => QN (Us (hv5 hg)) Z Z (.cons (Zh hg (.c (.p _))) .nil) Z Z Z) ?_;refine Q2 Z Z Q6 (fun hg => Z4 (Qb hg) Z Z) ?_;refine u0 (Ql (v := .bool (!(v5))) (w := .bool false) Z Z Q6 Z Qw) ?_;refine dN 1 Z ?_;refine Q2 Z Z Q4 (fun hg => QX (j := 1) Z Z Z Z (by decide) Z Z Z Z Z Z) ?_;refine Q2 Z Z Q4 (fun hg => Q3 (Qb hg) Z Z Z Z Z) ?_;refine Q2 Z Z Q4 (fun hg => Qd (Qb hg) Z) ?_;refine QE Z Z QO (fun hg => Q7 Z Z Z Z Z Z Z Z Z) ?_;refine QE Z Z QO (fun hg => Q3 (Qb hg) Z Z Z Z Z) ?_;obtain ⟨v6, hv6, h⟩ := h;refine QE Z Z QO (fun hg => QN (Us (hv6 hg)) Z Z (.cons (Zh hg (.c (.p _))) .nil) Z Z Z) ?_
    refine QE Z Z QO (fun hg => Z4 (Qb hg) Z Z) ?_;refine Q2 Z Z Q4 (fun hg => Ql (v := .bool (!(v6))) (w := .bool false) (Qb hg) Z (JC hg) Z Qw Z Z Z) ?_;refine u0 (Qm (v := .bool true) (w := .bool ((bif v3.fe1 then !(v6) else false))) Z Z Q4 Z Qw) ?_;refine rt (hL _ ?_);refine cn h (fun h => ?_) fun h => ?_
    · refine tD Z ?_;obtain rfl := h;exact Qf (hQ _ _ (Zt Z Z))
    · refine Qi (hL4 _ ?_);refine QS (st' := ⟨[(1, .c (.ptr (1, 0) 0 0)), (3, .c (.ptr (3, 0) 0 0))], [((1, 0), some (.box (List.map CV.p (Zf a0)))), ((3, 0), some (.box (List.map CV.p (Yj v3))))]⟩) QB.fit ?_;refine sk fun L7 hL7 => ?_;refine tk fun L hL => ?_;refine dN 1 Z ?_;refine u0 (QX (j := 2) Z Z Z Z (by decide) Z Z Z Z Z Z) ?_;refine dN 1 Z ?_;obtain ⟨v8, hv8, h⟩ := h;refine u0 (QQ (BK hv8)) ?_;refine dN 1 Z ?_;refine rt (hL _ ?_);refine tD Z ?_;refine cn h (fun h => ?_) fun h => ?_
      · refine tD Z ?_;obtain rfl := h;exact Qf (hQ _ _ (Zt Z Z))
      · refine Qi (hL7 _ ?_);refine Z5 (fun (p9 : Unit) => (⟨[(1, .c (.ptr (1, 0) 0 0)), (3, .c (.ptr (3, 0) 0 0))], [((1, 0), some (.box (List.map CV.p (Zf a0)))), ((3, 0), some (.box (List.map CV.p (Yj v3))))]⟩ : St)) h (fun p9 h => ?_) (fun J9 L9 hL9 h => ?_)
        · refine sk fun L11 hL11 => ?_;refine tk fun L hL => ?_;refine dN 1 Z ?_;refine u0 (QX (j := 4) Z Z Z Z (by decide) Z Z Z Z Z Z) ?_;refine dN 1 Z ?_;obtain ⟨v12, hv12, h⟩ := h;refine u0 (QQ (BK hv12)) ?_;refine dN 1 Z ?_;refine rt (hL _ ?_);refine tD Z ?_;refine cn h (fun h => ?_) fun h => ?_
          · refine tD Z ?_;obtain rfl := h;exact Qf (hQ _ _ (Zt Z Z))
          · refine Qi (hL11 _ ?_);refine sk fun L13 hL13 => ?_;refine tk fun L hL => ?_;refine u0 (QX (j := 5) Z Z Z Z (by decide) Z Z Z Z Z Z) ?_;refine dN 2 Z ?_;refine Q2 Z Z Q6 (fun hg => Q7 Z Z Z Z Z Z Z Z Z) ?_;refine Q2 Z Z Q6 (fun hg => Q3 (Qb hg) Z Z Z Z Z) ?_;refine Q2 Z Z Q6 (fun hg => QA (Qb hg) Z Z Z) ?_;refine Q2 Z Z Q6 (fun hg => Qz (c := decide (((a0.fb0.length : Int)) > 64)) (Qb hg) Z Z Z Z) ?_;refine u0 (Ql (v := .bool (decide (((a0.fb0.length : Int)) > 64))) (w := .bool false) Z Z Q6 Z Qw) ?_;refine rt (hL _ ?_);refine cn h (fun h => ?_) fun h => ?_
            · refine tD Z ?_;obtain rfl := h;exact Qf (hQ _ _ (Zt Z Z))
            · refine Qi (hL13 _ ?_);refine QS (st' := ⟨[(1, .c (.ptr (1, 0) 0 0)), (3, .c (.ptr (3, 0) 0 0))], [((1, 0), some (.box (List.map CV.p (Zf a0)))), ((3, 0), some (.box (List.map CV.p (Yj v3))))]⟩) QB.fit ?_;refine sk fun L14 hL14 => ?_;refine tk fun L hL => ?_;refine u0 (QX (j := 6) Z Z Z Z (by decide) Z Z Z Z Z Z) ?_;refine dN 2 Z ?_;refine Q2 Z Z Q6 (fun hg => Q7 Z Z Z Z Z Z Z Z Z) ?_;refine Q2 Z Z Q6 (fun hg => Q3 (Qb hg) Z Z Z Z Z) ?_;obtain ⟨v15, hv15, h⟩ := h;refine Q2 Z Z Q6 (fun hg => QN (Kw (hv15 hg)) Z Z (.cons (Zh hg (.c (.p _))) (.cons (.c (.p _)) (.cons (.c (.p _)) .nil))) Z Z Z) ?_;refine Q2 Z Z Q6 (fun hg => Z4 (Qb hg) Z Z) ?_;refine Q2 Z Z Q6 (fun hg => Qd (Qb hg) Z) ?_;refine QE Z Z K1 (fun hg => Q7 Z Z Z Z Z Z Z Z Z) ?_;refine QE Z Z K1 (fun hg => Q3 (Qb hg) Z Z Z Z Z) ?_;obtain ⟨v16, hv16, h⟩ := h;refine QE Z Z K1 (fun hg => QN (Kw (hv16 hg)) Z Z (.cons (Zh hg (.c (.p _))) (.cons (.c (.p _)) (.cons (.c (.p _)) .nil))) Z Z Z) ?_;refine QE Z Z K1 (fun hg => Z4 (Qb hg) Z Z) ?_
              refine Q2 Z Z Q6 (fun hg => Qm (v := .bool true) (w := .bool (!(v16))) (Qb hg) Z (US hg) Z Qw Z Z Z) ?_;refine u0 (Ql (v := .bool ((bif !(v15) then true else !(v16)))) (w := .bool false) Z Z Q6 Z Qw) ?_;refine rt (hL _ ?_);refine cn h (fun h => ?_) fun h => ?_
              · refine tD Z ?_;obtain rfl := h;exact Qf (hQ _ _ (Zt Z Z))
              · refine Qi (hL14 _ ?_);refine QS (st' := ⟨[(1, .c (.ptr (1, 0) 0 0)), (3, .c (.ptr (3, 0) 0 0))], [((1, 0), some (.box (List.map CV.p (Zf a0)))), ((3, 0), some (.box (List.map CV.p (Yj v3))))]⟩) QB.fit ?_;refine sk fun L17 hL17 => ?_;refine tk fun L hL => ?_;refine u0 (QX (j := 7) Z Z Z Z (by decide) Z Z Z Z Z Z) ?_;refine dN 2 Z ?_;refine Q2 Z Z Q6 (fun hg => Q7 Z Z Z Z Z Z Z Z Z) ?_;refine Q2 Z Z Q6 (fun hg => Q3 (Qb hg) Z Z Z Z Z) ?_;obtain ⟨v18, hv18, h⟩ := h;refine Q2 Z Z Q6 (fun hg => QN (Kw (hv18 hg)) Z Z (.cons (Zh hg (.c (.p _))) (.cons (.c (.p _)) (.cons (.c (.p _)) .nil))) Z Z Z) ?_;refine Q2 Z Z Q6 (fun hg => Z4 (Qb hg) Z Z) ?_;refine u0 (Ql (v := .bool (!(v18))) (w := .bool false) Z Z Q6 Z Qw) ?_;refine dN 1 Z ?_;refine Q2 Z Z Q4 (fun hg => QX (j := 8) Z Z Z Z (by decide) Z Z Z Z Z Z) ?_;refine Q2 Z Z Q4 (fun hg => Q3 (Qb hg) Z Z Z Z Z) ?_;refine Q2 Z Z Q4 (fun hg => Qd (Qb hg) Z) ?_;refine QE Z Z QO (fun hg => Q7 Z Z Z Z Z Z Z Z Z) ?_;refine QE Z Z QO (fun hg => Q3 (Qb hg) Z Z Z Z Z) ?_
                obtain ⟨v19, hv19, h⟩ := h;refine QE Z Z QO (fun hg => QN (Kw (hv19 hg)) Z Z (.cons (Zh hg (.c (.p _))) (.cons (.c (.p _)) (.cons (.c (.p _)) .nil))) Z Z Z) ?_;refine QE Z Z QO (fun hg => Z4 (Qb hg) Z Z) ?_;refine Q2 Z Z Q4 (fun hg => Ql (v := .bool (!(v19))) (w := .bool false) (Qb hg) Z (JC hg) Z Qw Z Z Z) ?_;refine u0 (Qm (v := .bool true) (w := .bool ((bif v3.fe8 then !(v19) else false))) Z Z Q4 Z Qw) ?_;refine dN 1 Z ?_;refine Q2 Z Z Q4 (fun hg => QX (j := 9) Z Z Z Z (by decide) Z Z Z Z Z Z) ?_;refine Q2 Z Z Q4 (fun hg => Q3 (Qb hg) Z Z Z Z Z) ?_;refine Q2 Z Z Q4 (fun hg => Qd (Qb hg) Z) ?_;refine QE Z Z QO (fun hg => Q7 Z Z Z Z Z Z Z Z Z) ?_;refine QE Z Z QO (fun hg => Q3 (Qb hg) Z Z Z Z Z) ?_;obtain ⟨v20, hv20, h⟩ := h;refine QE Z Z QO (fun hg => QN (Kw (hv20 hg)) Z Z (.cons (Zh hg (.c (.p _))) (.cons (.c (.p _)) (.cons (.c (.p _)) .nil))) Z Z Z) ?_;refine QE Z Z QO (fun hg => Z4 (Qb hg) Z Z) ?_;refine Q2 Z Z Q4 (fun hg => Ql (v := .bool (!(v20))) (w := .bool false) (Qb hg) Z (JC hg) Z Qw Z Z Z) ?_
                refine u0 (Qm (v := .bool true) (w := .bool ((bif v3.fe9 then !(v20) else false))) Z Z Q4 Z Qw) ?_;refine dN 1 Z ?_;refine Q2 Z Z Q4 (fun hg => QX (j := 10) Z Z Z Z (by decide) Z Z Z Z Z Z) ?_;refine Q2 Z Z Q4 (fun hg => Q3 (Qb hg) Z Z Z Z Z) ?_;refine Q2 Z Z Q4 (fun hg => Qd (Qb hg) Z) ?_;refine QE Z Z QO (fun hg => Q7 Z Z Z Z Z Z Z Z Z) ?_;refine QE Z Z QO (fun hg => Q3 (Qb hg) Z Z Z Z Z) ?_;obtain ⟨v21, hv21, h⟩ := h;refine QE Z Z QO (fun hg => QN (Kw (hv21 hg)) Z Z (.cons (Zh hg (.c (.p _))) (.cons (.c (.p _)) (.cons (.c (.p _)) .nil))) Z Z Z) ?_;refine QE Z Z QO (fun hg => Z4 (Qb hg) Z Z) ?_;refine Q2 Z Z Q4 (fun hg => Ql (v := .bool (!(v21))) (w := .bool false) (Qb hg) Z (JC hg) Z Qw Z Z Z) ?_;refine u0 (Qm (v := .bool true) (w := .bool ((bif v3.fe10 then !(v21) else false))) Z Z Q4 Z Qw) ?_;refine rt (hL _ ?_);refine cn h (fun h => ?_) fun h => ?_
                · refine tD Z ?_;refine QS (st' := ⟨[(2, .c (.p (.v (.int .i64 5))))], []⟩) QB.fit ?_;obtain rfl := h;exact Qf (hQ _ _ (Zt Z Z))
                · refine Qi (hL17 _ ?_);refine QS (st' := ⟨[(1, .c (.ptr (1, 0) 0 0)), (3, .c (.ptr (3, 0) 0 0))], [((1, 0), some (.box (List.map CV.p (Zf a0)))), ((3, 0), some (.box (List.map CV.p (Yj v3))))]⟩) QB.fit ?_;refine Z5 (fun (p22 : Unit) => (⟨[(1, .c (.ptr (1, 0) 0 0)), (3, .c (.ptr (3, 0) 0 0))], [((1, 0), some (.box (List.map CV.p (Zf a0)))), ((3, 0), some (.box (List.map CV.p (Yj v3))))]⟩ : St)) h (fun p22 h => ?_) (fun J22 L22 hL22 h => ?_)
                  · refine sk fun L24 hL24 => ?_;refine tk fun L hL => ?_;refine u0 (QX (j := 12) Z Z Z Z (by decide) Z Z Z Z Z Z) ?_;refine dN 2 Z ?_;refine Q2 Z Z Q6 (fun hg => Q7 Z Z Z Z Z Z Z Z Z) ?_;refine Q2 Z Z Q6 (fun hg => Q3 (Qb hg) Z Z Z Z Z) ?_;refine Q2 Z Z Q6 (fun hg => QA (Qb hg) Z Z Z) ?_;refine Q2 Z Z Q6 (fun hg => Qz (c := decide (((a0.fb3.length : Int)) > 65536)) (Qb hg) Z Z Z Z) ?_;refine u0 (Ql (v := .bool (decide (((a0.fb3.length : Int)) > 65536))) (w := .bool false) Z Z Q6 Z Qw) ?_;refine rt (hL _ ?_);refine cn h (fun h => ?_) fun h => ?_
                    · refine tD Z ?_;obtain rfl := h;exact Qf (hQ _ _ (Zt Z Z))
                    · refine Qi (hL24 _ ?_);refine QS (st' := ⟨[(1, .c (.ptr (1, 0) 0 0)), (3, .c (.ptr (3, 0) 0 0))], [((1, 0), some (.box (List.map CV.p (Zf a0)))), ((3, 0), some (.box (List.map CV.p (Yj v3))))]⟩) QB.fit ?_;refine sk fun L25 hL25 => ?_;refine tk fun L hL => ?_;refine u0 (QX (j := 0) Z Z Z Z (by decide) Z Z Z Z Z Z) ?_;refine dN 3 Z ?_;refine Q2 Z Z Q6 (fun hg => Q7 Z Z Z Z Z Z Z Z Z) ?_;refine Q2 Z Z Q6 (fun hg => Q3 (Qb hg) Z Z Z Z Z) ?_;refine Q2 Z Z Q6 (fun hg => Vy (c := (!(a0.fb4.toList == ((⟨#[]⟩ : ByteArray)).toList))) (Qb hg) Z Z Z Z) ?_;refine u0 (Ql (v := .bool ((!(a0.fb4.toList == ((⟨#[]⟩ : ByteArray)).toList)))) (w := .bool false) Z Z Q6 Z Qw) ?_;refine dN 1 Z ?_;refine Q2 Z Z Q4 (fun hg => QX (j := 1) Z Z Z Z (by decide) Z Z Z Z Z Z) ?_;refine Q2 Z Z Q4 (fun hg => Q3 (Qb hg) Z Z Z Z Z) ?_;refine Q2 Z Z Q4 (fun hg => Z4 (Qb hg) Z Z) ?_;refine Q2 Z Z Q4 (fun hg => Qd (Qb hg) Z) ?_;refine QE Z Z QO (fun hg => Q7 Z Z Z Z Z Z Z Z Z) ?_;refine QE Z Z QO (fun hg => Q3 (Qb hg) Z Z Z Z Z) ?_
                      refine QE Z Z QO (fun hg => Vy (c := (!(a0.fi.toList == ((⟨#[]⟩ : ByteArray)).toList))) (Qb hg) Z Z Z Z) ?_;refine Q2 Z Z Q4 (fun hg => Ql (v := .bool ((!(a0.fi.toList == ((⟨#[]⟩ : ByteArray)).toList)))) (w := .bool false) (Qb hg) Z (JC hg) Z Qw Z Z Z) ?_;refine u0 (Qm (v := .bool true) (w := .bool ((bif !(v3.fe1) then (!(a0.fi.toList == ((⟨#[]⟩ : ByteArray)).toList)) else false))) Z Z Q4 Z Qw) ?_;refine dN 1 Z ?_;refine Q2 Z Z Q4 (fun hg => QX (j := 2) Z Z Z Z (by decide) Z Z Z Z Z Z) ?_;refine Q2 Z Z Q4 (fun hg => Q3 (Qb hg) Z Z Z Z Z) ?_;refine Q2 Z Z Q4 (fun hg => Z4 (Qb hg) Z Z) ?_;refine Q2 Z Z Q4 (fun hg => Qd (Qb hg) Z) ?_;refine QE Z Z QO (fun hg => Q7 Z Z Z Z Z Z Z Z Z) ?_;refine QE Z Z QO (fun hg => Q3 (Qb hg) Z Z Z Z Z) ?_;refine QE Z Z QO (fun hg => QA (Qb hg) Z Z Z) ?_;refine QE Z Z QO (fun hg => Qz (c := decide (((a0.fa0.length : Int)) > 0)) (Qb hg) Z Z Z Z) ?_;refine Q2 Z Z Q4 (fun hg => Ql (v := .bool (decide (((a0.fa0.length : Int)) > 0))) (w := .bool false) (Qb hg) Z (JC hg) Z Qw Z Z Z) ?_
                      refine u0 (Qm (v := .bool true) (w := .bool ((bif !(v3.fe2) then decide (((a0.fa0.length : Int)) > 0) else false))) Z Z Q4 Z Qw) ?_;refine dN 1 Z ?_;refine Q2 Z Z Q4 (fun hg => QX (j := 3) Z Z Z Z (by decide) Z Z Z Z Z Z) ?_;refine Q2 Z Z Q4 (fun hg => Q3 (Qb hg) Z Z Z Z Z) ?_;refine Q2 Z Z Q4 (fun hg => Z4 (Qb hg) Z Z) ?_;refine Q2 Z Z Q4 (fun hg => Qd (Qb hg) Z) ?_;refine QE Z Z QO (fun hg => Q7 Z Z Z Z Z Z Z Z Z) ?_;refine QE Z Z QO (fun hg => QR (Qb hg) Z Z Z Z Z Z) ?_;refine QE Z Z QO (fun hg => Wn Z Z Z Z Z Z Z) ?_;refine QE Z Z QO (fun hg => AO (us := [.int .i64 a0.fa.fk, .int .i64 a0.fa.fg, .int .i64 a0.fa.fu, .int .u64 a0.fa.fw]) (vs := [.int .i64 0, .int .i64 0, .int .i64 0, .int .u64 0]) (c := (!((a0.fa.fk == 0) && ((a0.fa.fg == 0) && ((a0.fa.fu == 0) && ((a0.fa.fw == 0) && true)))))) (Qb hg) (Qb hg) (by kernel_rfl) Z Z Z Z Z Z) ?_;refine Q2 Z Z Q4 (fun hg => Ql (v := .bool ((!((a0.fa.fk == 0) && ((a0.fa.fg == 0) && ((a0.fa.fu == 0) && ((a0.fa.fw == 0) && true))))))) (w := .bool false) (Qb hg) Z (JC hg) Z Qw Z Z Z) ?_
                      refine u0 (Qm (v := .bool true) (w := .bool ((bif !(v3.fe3) then (!((a0.fa.fk == 0) && ((a0.fa.fg == 0) && ((a0.fa.fu == 0) && ((a0.fa.fw == 0) && true))))) else false))) Z Z Q4 Z Qw) ?_;refine dN 1 Z ?_;refine Q2 Z Z Q4 (fun hg => QX (j := 4) Z Z Z Z (by decide) Z Z Z Z Z Z) ?_;refine Q2 Z Z Q4 (fun hg => Q3 (Qb hg) Z Z Z Z Z) ?_;refine Q2 Z Z Q4 (fun hg => Z4 (Qb hg) Z Z) ?_;refine Q2 Z Z Q4 (fun hg => Qd (Qb hg) Z) ?_;refine QE Z Z QO (fun hg => Q7 Z Z Z Z Z Z Z Z Z) ?_;refine QE Z Z QO (fun hg => Q3 (Qb hg) Z Z Z Z Z) ?_;refine QE Z Z QO (fun hg => QA (Qb hg) Z Z Z) ?_;refine QE Z Z QO (fun hg => Qz (c := decide (((a0.f0.length : Int)) > 0)) (Qb hg) Z Z Z Z) ?_;refine Q2 Z Z Q4 (fun hg => Ql (v := .bool (decide (((a0.f0.length : Int)) > 0))) (w := .bool false) (Qb hg) Z (JC hg) Z Qw Z Z Z) ?_;refine u0 (Qm (v := .bool true) (w := .bool ((bif !(v3.fe4) then decide (((a0.f0.length : Int)) > 0) else false))) Z Z Q4 Z Qw) ?_;refine dN 1 Z ?_
                      refine Q2 Z Z Q4 (fun hg => QX (j := 5) Z Z Z Z (by decide) Z Z Z Z Z Z) ?_;refine Q2 Z Z Q4 (fun hg => Q3 (Qb hg) Z Z Z Z Z) ?_;refine Q2 Z Z Q4 (fun hg => Z4 (Qb hg) Z Z) ?_;refine Q2 Z Z Q4 (fun hg => Qd (Qb hg) Z) ?_;refine QE Z Z QO (fun hg => Q7 Z Z Z Z Z Z Z Z Z) ?_;refine QE Z Z QO (fun hg => Q3 (Qb hg) Z Z Z Z Z) ?_;refine QE Z Z QO (fun hg => QA (Qb hg) Z Z Z) ?_;refine QE Z Z QO (fun hg => Qz (c := decide (((a0.fb0.length : Int)) > 0)) (Qb hg) Z Z Z Z) ?_;refine Q2 Z Z Q4 (fun hg => Ql (v := .bool (decide (((a0.fb0.length : Int)) > 0))) (w := .bool false) (Qb hg) Z (JC hg) Z Qw Z Z Z) ?_;refine u0 (Qm (v := .bool true) (w := .bool ((bif !(v3.fe5) then decide (((a0.fb0.length : Int)) > 0) else false))) Z Z Q4 Z Qw) ?_;refine dN 1 Z ?_;refine Q2 Z Z Q4 (fun hg => QX (j := 6) Z Z Z Z (by decide) Z Z Z Z Z Z) ?_;refine Q2 Z Z Q4 (fun hg => Q3 (Qb hg) Z Z Z Z Z) ?_;refine Q2 Z Z Q4 (fun hg => Z4 (Qb hg) Z Z) ?_;refine Q2 Z Z Q4 (fun hg => Qd (Qb hg) Z) ?_
                      refine QE Z Z QO (fun hg => Q7 Z Z Z Z Z Z Z Z Z) ?_;refine QE Z Z QO (fun hg => Q3 (Qb hg) Z Z Z Z Z) ?_;refine QE Z Z QO (fun hg => Qz (c := (a0.f9 != 0)) (Qb hg) Z Z Z Z) ?_;refine QE Z Z QO (fun hg => Qd (Qb hg) Z) ?_;refine QE Z Z K1 (fun hg => Q7 Z Z Z Z Z Z Z Z Z) ?_;refine QE Z Z K1 (fun hg => Q3 (Qb hg) Z Z Z Z Z) ?_;refine QE Z Z K1 (fun hg => Qz (c := (a0.fa6 != 0)) (Qb hg) Z Z Z Z) ?_;refine QE Z Z QO (fun hg => Qm (v := .bool true) (w := .bool ((a0.fa6 != 0))) (Qb hg) Z (US hg) Z Qw Z Z Z) ?_;refine Q2 Z Z Q4 (fun hg => Ql (v := .bool ((bif (a0.f9 != 0) then true else (a0.fa6 != 0)))) (w := .bool false) (Qb hg) Z (JC hg) Z Qw Z Z Z) ?_;refine u0 (Qm (v := .bool true) (w := .bool ((bif !(v3.fe6) then (bif (a0.f9 != 0) then true else (a0.fa6 != 0)) else false))) Z Z Q4 Z Qw) ?_;refine dN 1 Z ?_;refine Q2 Z Z Q4 (fun hg => QX (j := 7) Z Z Z Z (by decide) Z Z Z Z Z Z) ?_;refine Q2 Z Z Q4 (fun hg => Q3 (Qb hg) Z Z Z Z Z) ?_
                      refine Q2 Z Z Q4 (fun hg => Z4 (Qb hg) Z Z) ?_;refine Q2 Z Z Q4 (fun hg => Qd (Qb hg) Z) ?_;refine QE Z Z QO (fun hg => Q7 Z Z Z Z Z Z Z Z Z) ?_;refine QE Z Z QO (fun hg => Q3 (Qb hg) Z Z Z Z Z) ?_;refine QE Z Z QO (fun hg => Qz (c := (a0.fa1 != 0)) (Qb hg) Z Z Z Z) ?_;refine Q2 Z Z Q4 (fun hg => Ql (v := .bool ((a0.fa1 != 0))) (w := .bool false) (Qb hg) Z (JC hg) Z Qw Z Z Z) ?_;refine u0 (Qm (v := .bool true) (w := .bool ((bif !(v3.fe7) then (a0.fa1 != 0) else false))) Z Z Q4 Z Qw) ?_;refine dN 1 Z ?_;refine Q2 Z Z Q4 (fun hg => QX (j := 8) Z Z Z Z (by decide) Z Z Z Z Z Z) ?_;refine Q2 Z Z Q4 (fun hg => Q3 (Qb hg) Z Z Z Z Z) ?_;refine Q2 Z Z Q4 (fun hg => Z4 (Qb hg) Z Z) ?_;refine Q2 Z Z Q4 (fun hg => Qd (Qb hg) Z) ?_;refine QE Z Z QO (fun hg => Q7 Z Z Z Z Z Z Z Z Z) ?_;refine QE Z Z QO (fun hg => Q3 (Qb hg) Z Z Z Z Z) ?_;refine QE Z Z QO (fun hg => Qz (c := (a0.fb1 != 0)) (Qb hg) Z Z Z Z) ?_;refine Q2 Z Z Q4 (fun hg => Ql (v := .bool ((a0.fb1 != 0))) (w := .bool false) (Qb hg) Z (JC hg) Z Qw Z Z Z) ?_
                      refine u0 (Qm (v := .bool true) (w := .bool ((bif !(v3.fe8) then (a0.fb1 != 0) else false))) Z Z Q4 Z Qw) ?_;refine dN 1 Z ?_;refine Q2 Z Z Q4 (fun hg => QX (j := 9) Z Z Z Z (by decide) Z Z Z Z Z Z) ?_;refine Q2 Z Z Q4 (fun hg => Q3 (Qb hg) Z Z Z Z Z) ?_;refine Q2 Z Z Q4 (fun hg => Z4 (Qb hg) Z Z) ?_;refine Q2 Z Z Q4 (fun hg => Qd (Qb hg) Z) ?_;refine QE Z Z QO (fun hg => Q7 Z Z Z Z Z Z Z Z Z) ?_;refine QE Z Z QO (fun hg => Q3 (Qb hg) Z Z Z Z Z) ?_;refine QE Z Z QO (fun hg => Qz (c := (a0.fa2 != 0)) (Qb hg) Z Z Z Z) ?_;refine Q2 Z Z Q4 (fun hg => Ql (v := .bool ((a0.fa2 != 0))) (w := .bool false) (Qb hg) Z (JC hg) Z Qw Z Z Z) ?_;refine u0 (Qm (v := .bool true) (w := .bool ((bif !(v3.fe9) then (a0.fa2 != 0) else false))) Z Z Q4 Z Qw) ?_;refine dN 1 Z ?_;refine Q2 Z Z Q4 (fun hg => QX (j := 10) Z Z Z Z (by decide) Z Z Z Z Z Z) ?_;refine Q2 Z Z Q4 (fun hg => Q3 (Qb hg) Z Z Z Z Z) ?_;refine Q2 Z Z Q4 (fun hg => Z4 (Qb hg) Z Z) ?_;refine Q2 Z Z Q4 (fun hg => Qd (Qb hg) Z) ?_
                      refine QE Z Z QO (fun hg => Q7 Z Z Z Z Z Z Z Z Z) ?_;refine QE Z Z QO (fun hg => Q3 (Qb hg) Z Z Z Z Z) ?_;refine QE Z Z QO (fun hg => Qz (c := (a0.fv != 0)) (Qb hg) Z Z Z Z) ?_;refine Q2 Z Z Q4 (fun hg => Ql (v := .bool ((a0.fv != 0))) (w := .bool false) (Qb hg) Z (JC hg) Z Qw Z Z Z) ?_;refine u0 (Qm (v := .bool true) (w := .bool ((bif !(v3.fe10) then (a0.fv != 0) else false))) Z Z Q4 Z Qw) ?_;refine dN 1 Z ?_;refine Q2 Z Z Q4 (fun hg => QX (j := 11) Z Z Z Z (by decide) Z Z Z Z Z Z) ?_;refine Q2 Z Z Q4 (fun hg => Q3 (Qb hg) Z Z Z Z Z) ?_;refine Q2 Z Z Q4 (fun hg => Z4 (Qb hg) Z Z) ?_;refine Q2 Z Z Q4 (fun hg => Qd (Qb hg) Z) ?_;refine QE Z Z QO (fun hg => Q7 Z Z Z Z Z Z Z Z Z) ?_;refine QE Z Z QO (fun hg => QR (Qb hg) Z Z Z Z Z Z) ?_;refine QE Z Z QO (fun hg => Wn Z Z Z Z Z Z Z) ?_;refine QE Z Z QO (fun hg => AO (us := [.int .i64 a0.fo.fk, .string a0.fo.fa4, .int .i64 a0.fo.fv, .int .i64 a0.fo.fb9, .int .i64 a0.fo.fb8]) (vs := [.int .i64 0, .string ByteArray.empty, .int .i64 0, .int .i64 0, .int .i64 0]) (c := (!((a0.fo.fk == 0) && ((a0.fo.fa4.toList == ByteArray.empty.toList) && ((a0.fo.fv == 0) && ((a0.fo.fb9 == 0) && ((a0.fo.fb8 == 0) && true))))))) (Qb hg) (Qb hg) (by kernel_rfl) Z Z Z Z Z Z) ?_
                      refine Q2 Z Z Q4 (fun hg => Ql (v := .bool ((!((a0.fo.fk == 0) && ((a0.fo.fa4.toList == ByteArray.empty.toList) && ((a0.fo.fv == 0) && ((a0.fo.fb9 == 0) && ((a0.fo.fb8 == 0) && true)))))))) (w := .bool false) (Qb hg) Z (JC hg) Z Qw Z Z Z) ?_;refine u0 (Qm (v := .bool true) (w := .bool ((bif !(v3.fe11) then (!((a0.fo.fk == 0) && ((a0.fo.fa4.toList == ByteArray.empty.toList) && ((a0.fo.fv == 0) && ((a0.fo.fb9 == 0) && ((a0.fo.fb8 == 0) && true)))))) else false))) Z Z Q4 Z Qw) ?_;refine dN 1 Z ?_;refine Q2 Z Z Q4 (fun hg => QX (j := 12) Z Z Z Z (by decide) Z Z Z Z Z Z) ?_;refine Q2 Z Z Q4 (fun hg => Q3 (Qb hg) Z Z Z Z Z) ?_;refine Q2 Z Z Q4 (fun hg => Z4 (Qb hg) Z Z) ?_;refine Q2 Z Z Q4 (fun hg => Qd (Qb hg) Z) ?_;refine QE Z Z QO (fun hg => Q7 Z Z Z Z Z Z Z Z Z) ?_;refine QE Z Z QO (fun hg => Q3 (Qb hg) Z Z Z Z Z) ?_;refine QE Z Z QO (fun hg => QA (Qb hg) Z Z Z) ?_;refine QE Z Z QO (fun hg => Qz (c := decide (((a0.fb3.length : Int)) > 0)) (Qb hg) Z Z Z Z) ?_
                      refine Q2 Z Z Q4 (fun hg => Ql (v := .bool (decide (((a0.fb3.length : Int)) > 0))) (w := .bool false) (Qb hg) Z (JC hg) Z Qw Z Z Z) ?_;refine u0 (Qm (v := .bool true) (w := .bool ((bif !(v3.fe12) then decide (((a0.fb3.length : Int)) > 0) else false))) Z Z Q4 Z Qw) ?_;refine rt (hL _ ?_);refine QS (st' := ⟨[(269, .c (.p (.v (.bool ((bif (bif (bif (bif (bif (bif (bif (bif (bif (bif (bif (bif (bif !(v3.fe0) then (!(a0.fb4.toList == ((⟨#[]⟩ : ByteArray)).toList)) else false) then true else (bif !(v3.fe1) then (!(a0.fi.toList == ((⟨#[]⟩ : ByteArray)).toList)) else false)) then true else (bif !(v3.fe2) then decide (((a0.fa0.length : Int)) > 0) else false)) then true else (bif !(v3.fe3) then (!((a0.fa.fk == 0) && ((a0.fa.fg == 0) && ((a0.fa.fu == 0) && ((a0.fa.fw == 0) && true))))) else false)) then true else (bif !(v3.fe4) then decide (((a0.f0.length : Int)) > 0) else false)) then true else (bif !(v3.fe5) then decide (((a0.fb0.length : Int)) > 0) else false)) then true else (bif !(v3.fe6) then (bif (a0.f9 != 0) then true else (a0.fa6 != 0)) else false)) then true else (bif !(v3.fe7) then (a0.fa1 != 0) else false)) then true else (bif !(v3.fe8) then (a0.fb1 != 0) else false)) then true else (bif !(v3.fe9) then (a0.fa2 != 0) else false)) then true else (bif !(v3.fe10) then (a0.fv != 0) else false)) then true else (bif !(v3.fe11) then (!((a0.fo.fk == 0) && ((a0.fo.fa4.toList == ByteArray.empty.toList) && ((a0.fo.fv == 0) && ((a0.fo.fb9 == 0) && ((a0.fo.fb8 == 0) && true)))))) else false)) then true else (bif !(v3.fe12) then decide (((a0.fb3.length : Int)) > 0) else false)))))))], []⟩) QB.fit ?_
                      refine cn h (fun h => ?_) fun h => ?_
                      · refine tD Z ?_;obtain rfl := h;exact Qf (hQ _ _ (Zt Z Z))
                      · refine Qi (hL25 _ ?_);refine tD Z ?_;obtain rfl := h;exact Qf (hQ _ _ (Zt Z Z))
                  · refine tk fun L hL => ?_;refine u0 (QX (j := 11) Z Z Z Z (by decide) Z Z Z Z Z Z) ?_;refine dN 1 Z ?_;refine rt (hL _ ?_);refine cn h (fun h => ?_) fun h => ?_
                    · refine tk fun L hL => ?_;refine dN 2 Z ?_;obtain ⟨v23, hv23, h⟩ := h;refine u0 (QQ (Ay hv23)) ?_;refine dN 1 Z ?_;refine rt (hL _ ?_);refine tD Z ?_;refine cn h (fun h => ?_) fun h => ?_
                      · refine tD Z ?_;obtain rfl := h;exact Qf (hQ _ _ (Zt Z Z))
                      · refine Qi (hL22 _ _ h QB.fit)
                    · refine Qi (hL22 _ _ h QB.fit)
        · refine tk fun L hL => ?_;refine u0 (QX (j := 3) Z Z Z Z (by decide) Z Z Z Z Z Z) ?_;refine dN 1 Z ?_;refine rt (hL _ ?_);refine cn h (fun h => ?_) fun h => ?_
          · refine tk fun L hL => ?_;refine dN 2 Z ?_;obtain ⟨v10, hv10, h⟩ := h;refine u0 (QQ (VF hv10)) ?_;refine dN 1 Z ?_;refine rt (hL _ ?_);refine tD Z ?_;refine cn h (fun h => ?_) fun h => ?_
            · refine tD Z ?_;obtain rfl := h;exact Qf (hQ _ _ (Zt Z Z))
            · refine Qi (hL9 _ _ h QB.fit)
          · refine Qi (hL9 _ _ h QB.fit)
def Kl (a0 : (List Q5)) (a1 : Int) (a2 : Qo) (a3 : Int) (Q : ((List Q5) × Int) → Prop) : Prop :=
 ((((bif decide (a1 < 0) then true else decide (a1 ≥ ((a0.length : Int))))) = true → Q (([] : (List Q5)), 5)) ∧ (((bif decide (a1 < 0) then true else decide (a1 ≥ ((a0.length : Int))))) = false → ∃ v3, JA a2 v3 ∧ ((((v3 != 0)) = true → Q (([] : (List Q5)), v3)) ∧ (((v3 != 0)) = false → ∃ v5, ix a0 a1 v5 ∧ ((v5.fb7 = true → Q (([] : (List Q5)), 12)) ∧ (v5.fb7 = false → (a0.length * 1088 ≤ 140737488355328) ∧ ∃ v7, ix a0 a1 v7 ∧ Q ((List.set (List.set (List.set (List.set a0 (Int.toNat a1) ((Q5.mk true v7.fOp v7.fm v7.fa3 v7.f7 v7.fa5))) (Int.toNat a1) ((Q5.mk true a2 v7.fm v7.fa3 v7.f7 v7.fa5))) (Int.toNat a1) ((Q5.mk true a2 (Qy.mk 0 0 false (([] : (List Int))) 0 (Qc.mk (Q9.mk 0 0 0 0) (Qp.mk 0 0 false) (Qa.mk 0 0 0 (([] : (List Int))) false) (Qj.mk 0 0 (([] : (List Int)))) (Qs.mk 0 0 (([] : (List Q1))) false) (Qe.mk 0 0 0 (([] : (List Q1))) false) (Qk.mk 0 0 0 (([] : (List (List ByteArray)))) false)) (Qc.mk (Q9.mk 0 0 0 0) (Qp.mk 0 0 false) (Qa.mk 0 0 0 (([] : (List Int))) false) (Qj.mk 0 0 (([] : (List Int)))) (Qs.mk 0 0 (([] : (List Q1))) false) (Qe.mk 0 0 0 (([] : (List Q1))) false) (Qk.mk 0 0 0 (([] : (List (List ByteArray)))) false)) 0 0 0 0 (Z8.mk 0 0) (([] : (List Int))) false) v7.fa3 v7.f7 v7.fa5))) (Int.toNat a1) ((Q5.mk true a2 (Qy.mk 0 0 false (([] : (List Int))) 0 (Qc.mk (Q9.mk 0 0 0 0) (Qp.mk 0 0 false) (Qa.mk 0 0 0 (([] : (List Int))) false) (Qj.mk 0 0 (([] : (List Int)))) (Qs.mk 0 0 (([] : (List Q1))) false) (Qe.mk 0 0 0 (([] : (List Q1))) false) (Qk.mk 0 0 0 (([] : (List (List ByteArray)))) false)) (Qc.mk (Q9.mk 0 0 0 0) (Qp.mk 0 0 false) (Qa.mk 0 0 0 (([] : (List Int))) false) (Qj.mk 0 0 (([] : (List Int)))) (Qs.mk 0 0 (([] : (List Q1))) false) (Qe.mk 0 0 0 (([] : (List Q1))) false) (Qk.mk 0 0 0 (([] : (List (List ByteArray)))) false)) 0 0 0 0 (Z8.mk 0 0) (([] : (List Int))) false) a3 v7.f7 v7.fa5))), 0)))))))
def Zq (a0 : (List Q5)) (a1 : Int) (a2 : Qo) (a3 : Int) (r : (List Q5) × Int) : Prop := Kl a0 a1 a2 a3 fun x => r = x
theorem Wz {a0 : (List Q5)} {a1 : Int} {a2 : Qo} {a3 : Int} {r : (List Q5) × Int} (h : Zq a0 a1 a2 a3 r) : Qq Tryz.prog 10 [.c (.l 97 (List.map Qv a0)), .c (.v (.int .i64 a1)), .agg (Zf a2), .c (.v (.int .i64 a3))] [.c (.own 97 (List.map Qv r.1)), .c (.p (.v (.int .i64 r.2)))] [] := by
  refine Qn tb Tryz.func10 Z (by kernel_rfl) Z Z (Nat.le_of_ble_eq_true Z) Z ?_;intro E;unfold Zq Kl at h;refine Z3 (fun Q hQ => ?_);refine tD Z ?_;refine sk fun L1 hL1 => ?_;refine tk fun L hL => ?_;refine dN 3 Z ?_;refine Q2 Z Z Q4 (fun hg => Qd Z Z) ?_;refine Q2 Z Z Q4 (fun hg => Qd Z Z) ?_;refine Q2 Z Z Q4 (fun hg => QA (Qb hg) Z Z Z) ?_;refine Q2 Z Z Q4 (fun hg => Qz (c := decide (a1 ≥ ((a0.length : Int)))) (Qb hg) (Qb hg) Z Z Z) ?_;refine u0 (Qm (v := .bool true) (w := .bool (decide (a1 ≥ ((a0.length : Int))))) Z Z Q4 Z Qw) ?_;refine rt (hL _ ?_);refine cn h (fun h => ?_) fun h => ?_
  · refine tD Z ?_;obtain rfl := h;exact Qf (hQ _ _ (I9 Z Z Z Z))
  · refine Qi (hL1 _ ?_);refine QS (st' := ⟨[(0, .c (.p (.l 97 (List.map Qv a0)))), (1, .c (.p (.v (.int .i64 a1)))), (3, .c (.p (.v (.int .i64 a3)))), (6, .c (.ptr (6, 0) 0 0))], [((6, 0), some (.box (List.map CV.p (Zf a2))))]⟩) QB.fit ?_;refine sk fun L2 hL2 => ?_;refine tk fun L hL => ?_;refine dN 1 Z ?_;obtain ⟨v3, hv3, h⟩ := h;refine u0 (QQ (UJ hv3)) ?_;refine dN 1 Z ?_;refine rt (hL _ ?_);refine tD Z ?_;refine cn h (fun h => ?_) fun h => ?_
    · refine tD Z ?_;obtain rfl := h;exact Qf (hQ _ _ (I9 Z Z Z Z))
    · refine Qi (hL2 _ ?_);refine sk fun L4 hL4 => ?_;refine tk fun L hL => ?_;refine dN 2 Z ?_;obtain ⟨v5, hv5, h⟩ := h;refine u0 (QC hv5) ?_;refine dN 2 Z ?_;refine rt (hL _ ?_);refine cn h (fun h => ?_) fun h => ?_
      · refine tD Z ?_;obtain rfl := h;exact Qf (hQ _ _ (I9 Z Z Z Z))
      · refine Qi (hL4 _ ?_);refine tk fun L hL => ?_;refine dN 1 Z ?_;obtain ⟨hm6, h⟩ := h;refine ul (JR (f := Qv) (L := a0) hm6 Z Z Z Z Z Z Z Z Z Z (V5 QL Z Z Z Z Z)) ?_;refine dN 1 Z ?_;refine rt (hL _ ?_);refine tk fun L hL => ?_;refine dN 2 Z ?_;obtain ⟨v7, hv7, h⟩ := h;refine u0 (QU hv7) ?_;refine dN 1 Z ?_;refine rt (hL _ ?_);refine dk mixed (fun L hL => ?_);refine dN 9 Z ?_;refine un (Zg (x1 := (Q5.mk true v7.fOp v7.fm v7.fa3 v7.f7 v7.fa5)) hv7.2) ?_;refine dN 2 Z ?_;refine un (Zg (x1 := (Q5.mk true a2 v7.fm v7.fa3 v7.f7 v7.fa5)) (ZE hv7.2)) ?_;refine dN 2 Z ?_;refine un (Kc (x1 := (Q5.mk true a2 (Qy.mk 0 0 false (([] : (List Int))) 0 (Qc.mk (Q9.mk 0 0 0 0) (Qp.mk 0 0 false) (Qa.mk 0 0 0 (([] : (List Int))) false) (Qj.mk 0 0 (([] : (List Int)))) (Qs.mk 0 0 (([] : (List Q1))) false) (Qe.mk 0 0 0 (([] : (List Q1))) false) (Qk.mk 0 0 0 (([] : (List (List ByteArray)))) false)) (Qc.mk (Q9.mk 0 0 0 0) (Qp.mk 0 0 false) (Qa.mk 0 0 0 (([] : (List Int))) false) (Qj.mk 0 0 (([] : (List Int)))) (Qs.mk 0 0 (([] : (List Q1))) false) (Qe.mk 0 0 0 (([] : (List Q1))) false) (Qk.mk 0 0 0 (([] : (List (List ByteArray)))) false)) 0 0 0 0 (Z8.mk 0 0) (([] : (List Int))) false) v7.fa3 v7.f7 v7.fa5)) (ZE (ZE hv7.2)) Z Z Z Z (.c (.c (.c (.cons (.nil _) (.c (.c (.c (.c (.c (.c (.c (.c (.c (.c (.c (.cons (.nil _) (.c (.c (.c (.cons (.nil _) (.c (.c (.cons (.nil _) (.c (.c (.c (.c (.cons (.nil _) (.c (.c (.c (.c (.cons (.nil _) (.c (.c (.c (.c (.c (.c (.c (.c (.c (.c (.c (.cons (.nil _) (.c (.c (.c (.cons (.nil _) (.c (.c (.cons (.nil _) (.c (.c (.c (.c (.cons (.nil _) (.c (.c (.c (.c (.cons (.nil _) (.c (.c (.c (.c (.c (.c (.c (.cons (.nil _) (.c .nil)))))))))))))))))))))))))))))))))))))))))))))))))))))))))))))))))))))))) ?_
        refine dN 2 Z ?_;refine un (Zg (x1 := (Q5.mk true a2 (Qy.mk 0 0 false (([] : (List Int))) 0 (Qc.mk (Q9.mk 0 0 0 0) (Qp.mk 0 0 false) (Qa.mk 0 0 0 (([] : (List Int))) false) (Qj.mk 0 0 (([] : (List Int)))) (Qs.mk 0 0 (([] : (List Q1))) false) (Qe.mk 0 0 0 (([] : (List Q1))) false) (Qk.mk 0 0 0 (([] : (List (List ByteArray)))) false)) (Qc.mk (Q9.mk 0 0 0 0) (Qp.mk 0 0 false) (Qa.mk 0 0 0 (([] : (List Int))) false) (Qj.mk 0 0 (([] : (List Int)))) (Qs.mk 0 0 (([] : (List Q1))) false) (Qe.mk 0 0 0 (([] : (List Q1))) false) (Qk.mk 0 0 0 (([] : (List (List ByteArray)))) false)) 0 0 0 0 (Z8.mk 0 0) (([] : (List Int))) false) a3 v7.f7 v7.fa5)) (ZE (ZE (ZE hv7.2)))) ?_;refine rd (hL _ ?_);refine tD Z ?_;obtain rfl := h;exact Qf (hQ _ _ ⟨.inr Z, _, _, _, (.cons (.s Z) (.cons (.p Z) .nil)), (.cons (.c (.own Z (by simp))) (.cons (.c (.p _)) .nil)), Z, Z⟩)
set_option maxRecDepth 100000
set_option maxHeartbeats 4000000
def JX (a0 : Int) (Q : Qu → Prop) : Prop :=
 ∃ v1, VC a0 v1 ∧ jn (fun (p2 : Int × ByteArray × Int × Int × Int) => Q ((Qu.mk p2.1 p2.2.1 p2.2.2.1 p2.2.2.2.1 p2.2.2.2.2))) (fun (J2 : Int × ByteArray × Int × Int × Int → Prop) => (((((QM .i64 (QH .i64 a0 9) 15) == 0)) = true → J2 ((IntKind.i64.wrap ((QM .i64 (QH .i64 a0 4) 15) - 3)), v1.fa4, v1.fv, v1.fb9, v1.fb8)) ∧ ((((QM .i64 (QH .i64 a0 9) 15) == 0)) = false → (((((QM .i64 (QH .i64 a0 9) 15) == 1)) = true → ∃ v3, ix ([((⟨#[]⟩ : ByteArray)), ((⟨#[120]⟩ : ByteArray)), ((⟨#[48, 49, 50, 51, 52, 53, 54, 55, 56, 57, 48, 49, 50, 51, 52, 53, 54, 55, 56, 57, 48, 49, 50, 51, 52, 53, 54, 55, 56, 57, 48, 49, 50, 51]⟩ : ByteArray))]) ((QH .i64 a0 4).tmod 3) v3 ∧ J2 (v1.fk, v3, v1.fv, v1.fb9, v1.fb8)) ∧ ((((QM .i64 (QH .i64 a0 9) 15) == 1)) = false → (((((QM .i64 (QH .i64 a0 9) 15) == 2)) = true → J2 (v1.fk, v1.fa4, (IntKind.i64.wrap ((QM .i64 (QH .i64 a0 4) 63) - 2)), v1.fb9, v1.fb8)) ∧ ((((QM .i64 (QH .i64 a0 9) 15) == 2)) = false → (((((QM .i64 (QH .i64 a0 9) 15) == 3)) = true → J2 (v1.fk, v1.fa4, v1.fv, (IntKind.i64.wrap ((QM .i64 (QH .i64 a0 4) 7) - 1)), (QM .i64 (QH .i64 a0 7) 3))) ∧ ((((QM .i64 (QH .i64 a0 9) 15) == 3)) = false → (((((QM .i64 (QH .i64 a0 9) 15) == 4)) = true → J2 (v1.fk, v1.fa4, v1.fv, v1.fb9, (IntKind.i64.wrap (1000000 + (QM .i64 (QH .i64 a0 4) 1))))) ∧ ((((QM .i64 (QH .i64 a0 9) 15) == 4)) = false → J2 (v1.fk, v1.fa4, v1.fv, v1.fb9, v1.fb8))))))))))))
def VS (a0 : Int) (r : Qu) : Prop := JX a0 fun x => r = x
theorem Ev {a0 : Int} {Post : Qu → Prop} (h : JX a0 Post) : ∃ r, VS a0 r ∧ Post r := (show GM (JX a0) (JX a0) from GM.ex fun v1 => GM.join (fun p2 => GM.ret _) (fun _ _ J2 => GM.cond (J2 _) (GM.cond (GM.ex fun v3 => J2 _) (GM.cond (J2 _) (GM.cond (J2 _) (GM.cond (J2 _) (J2 _))))))) Post h
theorem Ew {a0 : Int} {r : Qu} (h : VS a0 r) : Qq Tryz.prog 22 [.c (.v (.int .i64 a0))] [.agg [.p (.v (.int .i64 r.fk)), .p (.v (.string r.fa4)), .p (.v (.int .i64 r.fv)), .p (.v (.int .i64 r.fb9)), .p (.v (.int .i64 r.fb8))]] [] := by
  refine Qn tb Tryz.func22 Z (by kernel_rfl) Z Z (Nat.le_of_ble_eq_true Z) Z ?_;intro E;unfold VS JX at h;refine Z3 (fun Q hQ => ?_);refine tD Z ?_;refine tk fun L hL => ?_;refine dN 1 Z ?_;obtain ⟨v1, hv1, h⟩ := h;refine u0 (QQ (UW hv1)) ?_;refine dN 2 Z ?_;refine rt (hL _ ?_);refine Z5 (fun (p2 : Int × ByteArray × Int × Int × Int) => (⟨[(2, .c (.ptr (2, 0) 0 0)), (3, .c (.ptr (3, 0) 0 0))], [((2, 0), some (.box ([.p (.v (.int .i64 0)), .p (.v (.string ByteArray.empty)), .p (.v (.int .i64 0)), .p (.v (.int .i64 0)), .p (.v (.int .i64 0))]))), ((3, 0), some (.box ([.p (.v (.int .i64 p2.1)), .p (.v (.string p2.2.1)), .p (.v (.int .i64 p2.2.2.1)), .p (.v (.int .i64 p2.2.2.2.1)), .p (.v (.int .i64 p2.2.2.2.2))])))]⟩ : St)) h (fun p2 h => ?_) (fun J2 L2 hL2 h => ?_)
  · refine tD Z ?_;obtain rfl := h;exact Qf (hQ _ _ ⟨.inr Z, _, _, _, (.cons (.cella Z Z Z Z Z) .nil), (.cons (.agg (Qr (Qr (Qr (Qr (Qr .nil)))))) .nil), Z, Z⟩)
  · refine tD Z ?_;refine Qt ?_;refine tD Z ?_;refine cn h (fun h => ?_) fun h => ?_
    · refine tE Z (hL2 _ _ h QB.fit)
    · refine tD Z ?_;refine cn h (fun h => ?_) fun h => ?_
      · refine tl fun L hL => ?_;refine ul (QD (rows := List.map eS [((⟨#[]⟩ : ByteArray)), ((⟨#[120]⟩ : ByteArray)), ((⟨#[48, 49, 50, 51, 52, 53, 54, 55, 56, 57, 48, 49, 50, 51, 52, 53, 54, 55, 56, 57, 48, 49, 50, 51, 52, 53, 54, 55, 56, 57, 48, 49, 50, 51]⟩ : ByteArray))])) ?_;refine dN 3 Z ?_;obtain ⟨v3, hv3, h⟩ := h;refine u0 (QU hv3) ?_;refine u0 (QW Z Z (gm hv3.2)) ?_;refine dN 2 Z ?_;refine rt (hL _ (hL2 _ _ h QB.fit))
      · refine tD Z ?_;refine cn h (fun h => ?_) fun h => ?_
        · refine tE Z (hL2 _ _ h QB.fit)
        · refine tD Z ?_;refine cn h (fun h => ?_) fun h => ?_
          · refine tE Z (hL2 _ _ h QB.fit)
          · refine tD Z ?_;refine cn h (fun h => ?_) fun h => ?_
            · refine tE Z (hL2 _ _ h QB.fit)
            · refine Qi (hL2 _ _ h QB.fit)
def VI (a0 : Qo) (a1 : Int) (Q : Qo → Prop) : Prop :=
 jn (fun (p1 : Int × ByteArray × ByteArray × (List ByteArray) × Int × Int × Int × Int × (List Qh) × (List Int) × Int × Int × Int × Int × Int × Int × Int × ByteArray × Int × Int × Int × (List Int)) => Q ((Qo.mk p1.1 p1.2.1 p1.2.2.1 p1.2.2.2.1 (Q9.mk p1.2.2.2.2.1 p1.2.2.2.2.2.1 p1.2.2.2.2.2.2.1 p1.2.2.2.2.2.2.2.1) p1.2.2.2.2.2.2.2.2.1 p1.2.2.2.2.2.2.2.2.2.1 p1.2.2.2.2.2.2.2.2.2.2.1 p1.2.2.2.2.2.2.2.2.2.2.2.1 p1.2.2.2.2.2.2.2.2.2.2.2.2.1 p1.2.2.2.2.2.2.2.2.2.2.2.2.2.1 p1.2.2.2.2.2.2.2.2.2.2.2.2.2.2.1 p1.2.2.2.2.2.2.2.2.2.2.2.2.2.2.2.1 (Qu.mk p1.2.2.2.2.2.2.2.2.2.2.2.2.2.2.2.2.1 p1.2.2.2.2.2.2.2.2.2.2.2.2.2.2.2.2.2.1 p1.2.2.2.2.2.2.2.2.2.2.2.2.2.2.2.2.2.2.1 p1.2.2.2.2.2.2.2.2.2.2.2.2.2.2.2.2.2.2.2.1 p1.2.2.2.2.2.2.2.2.2.2.2.2.2.2.2.2.2.2.2.2.1) p1.2.2.2.2.2.2.2.2.2.2.2.2.2.2.2.2.2.2.2.2.2))) (fun (J1 : Int × ByteArray × ByteArray × (List ByteArray) × Int × Int × Int × Int × (List Qh) × (List Int) × Int × Int × Int × Int × Int × Int × Int × ByteArray × Int × Int × Int × (List Int) → Prop) => (((((QM .i64 a1 31) == 0)) = true → J1 ((IntKind.i64.wrap (((QM .i64 (QH .i64 a1 5) 16777215).tmod 22) - 2)), a0.fb4, a0.fi, a0.fa0, a0.fa.fk, a0.fa.fg, a0.fa.fu, a0.fa.fw, a0.f0, a0.fb0, a0.f9, a0.fa6, a0.fa1, a0.fb1, a0.fa2, a0.fv, a0.fo.fk, a0.fo.fa4, a0.fo.fv, a0.fo.fb9, a0.fo.fb8, a0.fb3)) ∧ ((((QM .i64 a1 31) == 0)) = false → (((((QM .i64 a1 31) == 1)) = true → ∃ v2, ix ([((⟨#[]⟩ : ByteArray)), ((⟨#[65]⟩ : ByteArray)), ((⟨#[97, 45, 49, 46, 120]⟩ : ByteArray)), ((⟨#[48, 49, 50, 51, 52, 53, 54, 55, 56, 57, 48, 49, 50, 51, 52, 53, 54]⟩ : ByteArray))]) (QM .i64 (QM .i64 (QH .i64 a1 5) 16777215) 3) v2 ∧ J1 (a0.fk, v2, a0.fi, a0.fa0, a0.fa.fk, a0.fa.fg, a0.fa.fu, a0.fa.fw, a0.f0, a0.fb0, a0.f9, a0.fa6, a0.fa1, a0.fb1, a0.fa2, a0.fv, a0.fo.fk, a0.fo.fa4, a0.fo.fv, a0.fo.fb9, a0.fo.fb8, a0.fb3)) ∧ ((((QM .i64 a1 31) == 1)) = false → (((((QM .i64 a1 31) == 2)) = true → ∃ v3, ix ([((⟨#[]⟩ : ByteArray)), ((⟨#[98]⟩ : ByteArray)), ((⟨#[98, 32, 98]⟩ : ByteArray)), ((⟨#[99]⟩ : ByteArray))]) (QM .i64 (QM .i64 (QH .i64 a1 5) 16777215) 3) v3 ∧ J1 (a0.fk, a0.fb4, v3, a0.fa0, a0.fa.fk, a0.fa.fg, a0.fa.fu, a0.fa.fw, a0.f0, a0.fb0, a0.f9, a0.fa6, a0.fa1, a0.fb1, a0.fa2, a0.fv, a0.fo.fk, a0.fo.fa4, a0.fo.fv, a0.fo.fb9, a0.fo.fb8, a0.fb3)) ∧ ((((QM .i64 a1 31) == 2)) = false → (((((QM .i64 a1 31) == 3)) = true → (a0.fa0.length * 16 ≤ 140737488355328) ∧ ∃ v5, ix ([((⟨#[]⟩ : ByteArray)), ((⟨#[97]⟩ : ByteArray)), ((⟨#[63]⟩ : ByteArray))]) ((QM .i64 (QH .i64 a1 5) 16777215).tmod 3) v5 ∧ ((a0.fa0.length + ([v5]).length) * 16 ≤ 140737488355328) ∧ J1 (a0.fk, a0.fb4, a0.fi, (a0.fa0 ++ ([v5])), a0.fa.fk, a0.fa.fg, a0.fa.fu, a0.fa.fw, a0.f0, a0.fb0, a0.f9, a0.fa6, a0.fa1, a0.fb1, a0.fa2, a0.fv, a0.fo.fk, a0.fo.fa4, a0.fo.fv, a0.fo.fb9, a0.fo.fb8, a0.fb3)) ∧ ((((QM .i64 a1 31) == 3)) = false → (((((QM .i64 a1 31) == 4)) = true → ((0 : Int) ≤ ((QM .i64 (QH .i64 a1 5) 16777215).tmod 20) ∧ ((QM .i64 (QH .i64 a1 5) 16777215).tmod 20 : Int) * ((16 : Nat) : Int) ≤ 140737488355328) ∧ J1 (a0.fk, a0.fb4, a0.fi, (List.replicate (Int.toNat ((QM .i64 (QH .i64 a1 5) 16777215).tmod 20)) ByteArray.empty), a0.fa.fk, a0.fa.fg, a0.fa.fu, a0.fa.fw, a0.f0, a0.fb0, a0.f9, a0.fa6, a0.fa1, a0.fb1, a0.fa2, a0.fv, a0.fo.fk, a0.fo.fa4, a0.fo.fv, a0.fo.fb9, a0.fo.fb8, a0.fb3)) ∧ ((((QM .i64 a1 31) == 4)) = false → (((((QM .i64 a1 31) == 5)) = true → J1 (a0.fk, a0.fb4, a0.fi, a0.fa0, ((QM .i64 (QH .i64 a1 5) 16777215).tmod 9), ((QH .i64 (QM .i64 (QH .i64 a1 5) 16777215) 3).tmod 40), ((QH .i64 (QM .i64 (QH .i64 a1 5) 16777215) 5).tmod 3), 0, a0.f0, a0.fb0, a0.f9, a0.fa6, a0.fa1, a0.fb1, a0.fa2, a0.fv, a0.fo.fk, a0.fo.fa4, a0.fo.fv, a0.fo.fb9, a0.fo.fb8, a0.fb3)) ∧ ((((QM .i64 a1 31) == 5)) = false → (((((QM .i64 a1 31) == 6)) = true → (a0.f0.length * 24 ≤ 140737488355328) ∧ ∃ v9, Xo (QM .i64 (QH .i64 a1 5) 16777215) v9 ∧ ((a0.f0.length + ([(Qh.mk v9 (IntKind.i64.wrap (((QM .i64 (QH .i64 a1 5) 16777215).tmod 3) - 1)))]).length) * 24 ≤ 140737488355328) ∧ J1 (a0.fk, a0.fb4, a0.fi, a0.fa0, a0.fa.fk, a0.fa.fg, a0.fa.fu, a0.fa.fw, (a0.f0 ++ ([(Qh.mk v9 (IntKind.i64.wrap (((QM .i64 (QH .i64 a1 5) 16777215).tmod 3) - 1)))])), a0.fb0, a0.f9, a0.fa6, a0.fa1, a0.fb1, a0.fa2, a0.fv, a0.fo.fk, a0.fo.fa4, a0.fo.fv, a0.fo.fb9, a0.fo.fb8, a0.fb3)) ∧ ((((QM .i64 a1 31) == 6)) = false → (((((QM .i64 a1 31) == 7)) = true → ((0 : Int) ≤ (IntKind.i64.wrap (64 + ((QM .i64 (QH .i64 a1 5) 16777215).tmod 2))) ∧ (IntKind.i64.wrap (64 + ((QM .i64 (QH .i64 a1 5) 16777215).tmod 2)) : Int) * ((24 : Nat) : Int) ≤ 140737488355328) ∧ J1 (a0.fk, a0.fb4, a0.fi, a0.fa0, a0.fa.fk, a0.fa.fg, a0.fa.fu, a0.fa.fw, (List.replicate (Int.toNat (IntKind.i64.wrap (64 + ((QM .i64 (QH .i64 a1 5) 16777215).tmod 2)))) (Qh.mk ByteArray.empty 0)), a0.fb0, a0.f9, a0.fa6, a0.fa1, a0.fb1, a0.fa2, a0.fv, a0.fo.fk, a0.fo.fa4, a0.fo.fv, a0.fo.fb9, a0.fo.fb8, a0.fb3)) ∧ ((((QM .i64 a1 31) == 7)) = false → (((((QM .i64 a1 31) == 8)) = true → ((0 : Int) ≤ (IntKind.i64.wrap (60 + ((QM .i64 (QH .i64 a1 5) 16777215).tmod 9))) ∧ (IntKind.i64.wrap (60 + ((QM .i64 (QH .i64 a1 5) 16777215).tmod 9)) : Int) * ((1 : Nat) : Int) ≤ 140737488355328) ∧ J1 (a0.fk, a0.fb4, a0.fi, a0.fa0, a0.fa.fk, a0.fa.fg, a0.fa.fu, a0.fa.fw, a0.f0, (List.replicate (Int.toNat (IntKind.i64.wrap (60 + ((QM .i64 (QH .i64 a1 5) 16777215).tmod 9)))) 0), a0.f9, a0.fa6, a0.fa1, a0.fb1, a0.fa2, a0.fv, a0.fo.fk, a0.fo.fa4, a0.fo.fv, a0.fo.fb9, a0.fo.fb8, a0.fb3)) ∧ ((((QM .i64 a1 31) == 8)) = false → (((((QM .i64 a1 31) == 9)) = true → ∃ v13, ix ([0, 1, 1048576, 1048577]) (QM .i64 (QM .i64 (QH .i64 a1 5) 16777215) 3) v13 ∧ J1 (a0.fk, a0.fb4, a0.fi, a0.fa0, a0.fa.fk, a0.fa.fg, a0.fa.fu, a0.fa.fw, a0.f0, a0.fb0, v13, a0.fa6, a0.fa1, a0.fb1, a0.fa2, a0.fv, a0.fo.fk, a0.fo.fa4, a0.fo.fv, a0.fo.fb9, a0.fo.fb8, a0.fb3)) ∧ ((((QM .i64 a1 31) == 9)) = false → (((((QM .i64 a1 31) == 10)) = true → ∃ v14, ix ([0, 1, 1048576, 1048577]) (QM .i64 (QM .i64 (QH .i64 a1 5) 16777215) 3) v14 ∧ J1 (a0.fk, a0.fb4, a0.fi, a0.fa0, a0.fa.fk, a0.fa.fg, a0.fa.fu, a0.fa.fw, a0.f0, a0.fb0, a0.f9, v14, a0.fa1, a0.fb1, a0.fa2, a0.fv, a0.fo.fk, a0.fo.fa4, a0.fo.fv, a0.fo.fb9, a0.fo.fb8, a0.fb3)) ∧ ((((QM .i64 a1 31) == 10)) = false → (((((QM .i64 a1 31) == 11)) = true → J1 (a0.fk, a0.fb4, a0.fi, a0.fa0, a0.fa.fk, a0.fa.fg, a0.fa.fu, a0.fa.fw, a0.f0, a0.fb0, a0.f9, a0.fa6, (IntKind.i64.wrap (((QM .i64 (QH .i64 a1 5) 16777215).tmod 8) - 2)), a0.fb1, a0.fa2, a0.fv, a0.fo.fk, a0.fo.fa4, a0.fo.fv, a0.fo.fb9, a0.fo.fb8, a0.fb3)) ∧ ((((QM .i64 a1 31) == 11)) = false → (((((QM .i64 a1 31) == 12)) = true → J1 (a0.fk, a0.fb4, a0.fi, a0.fa0, a0.fa.fk, a0.fa.fg, a0.fa.fu, a0.fa.fw, a0.f0, a0.fb0, a0.f9, a0.fa6, a0.fa1, (IntKind.i64.wrap (((QM .i64 (QH .i64 a1 5) 16777215).tmod 20) - 2)), a0.fa2, a0.fv, a0.fo.fk, a0.fo.fa4, a0.fo.fv, a0.fo.fb9, a0.fo.fb8, a0.fb3)) ∧ ((((QM .i64 a1 31) == 12)) = false → (((((QM .i64 a1 31) == 13)) = true → J1 (a0.fk, a0.fb4, a0.fi, a0.fa0, a0.fa.fk, a0.fa.fg, a0.fa.fu, a0.fa.fw, a0.f0, a0.fb0, a0.f9, a0.fa6, a0.fa1, a0.fb1, (IntKind.i64.wrap (((QM .i64 (QH .i64 a1 5) 16777215).tmod 8) - 2)), a0.fv, a0.fo.fk, a0.fo.fa4, a0.fo.fv, a0.fo.fb9, a0.fo.fb8, a0.fb3)) ∧ ((((QM .i64 a1 31) == 13)) = false → (((((QM .i64 a1 31) == 14)) = true → J1 (a0.fk, a0.fb4, a0.fi, a0.fa0, a0.fa.fk, a0.fa.fg, a0.fa.fu, a0.fa.fw, a0.f0, a0.fb0, a0.f9, a0.fa6, a0.fa1, a0.fb1, a0.fa2, (IntKind.i64.wrap (((QM .i64 (QH .i64 a1 5) 16777215).tmod 40) - 3)), a0.fo.fk, a0.fo.fa4, a0.fo.fv, a0.fo.fb9, a0.fo.fb8, a0.fb3)) ∧ ((((QM .i64 a1 31) == 14)) = false → (((((QM .i64 a1 31) == 15)) = true → ∃ v15, VS (QM .i64 (QH .i64 a1 5) 16777215) v15 ∧ J1 (a0.fk, a0.fb4, a0.fi, a0.fa0, a0.fa.fk, a0.fa.fg, a0.fa.fu, a0.fa.fw, a0.f0, a0.fb0, a0.f9, a0.fa6, a0.fa1, a0.fb1, a0.fa2, a0.fv, v15.fk, v15.fa4, v15.fv, v15.fb9, v15.fb8, a0.fb3)) ∧ ((((QM .i64 a1 31) == 15)) = false → (((((QM .i64 a1 31) == 16)) = true → ((0 : Int) ≤ (IntKind.i64.wrap (65536 + ((QM .i64 (QH .i64 a1 5) 16777215).tmod 2))) ∧ (IntKind.i64.wrap (65536 + ((QM .i64 (QH .i64 a1 5) 16777215).tmod 2)) : Int) * ((1 : Nat) : Int) ≤ 140737488355328) ∧ J1 (a0.fk, a0.fb4, a0.fi, a0.fa0, a0.fa.fk, a0.fa.fg, a0.fa.fu, a0.fa.fw, a0.f0, a0.fb0, a0.f9, a0.fa6, a0.fa1, a0.fb1, a0.fa2, a0.fv, a0.fo.fk, a0.fo.fa4, a0.fo.fv, a0.fo.fb9, a0.fo.fb8, (List.replicate (Int.toNat (IntKind.i64.wrap (65536 + ((QM .i64 (QH .i64 a1 5) 16777215).tmod 2)))) 0))) ∧ ((((QM .i64 a1 31) == 16)) = false → (((((QM .i64 a1 31) == 17)) = true → J1 (a0.fk, a0.fb4, a0.fi, a0.fa0, a0.fa.fk, a0.fa.fg, a0.fa.fu, a0.fa.fw, a0.f0, a0.fb0, a0.f9, a0.fa6, a0.fa1, a0.fb1, a0.fa2, a0.fv, a0.fo.fk, a0.fo.fa4, a0.fo.fv, a0.fo.fb9, a0.fo.fb8, ([1]))) ∧ ((((QM .i64 a1 31) == 17)) = false → J1 (a0.fk, a0.fb4, a0.fi, a0.fa0, a0.fa.fk, a0.fa.fg, a0.fa.fu, a0.fa.fw, a0.f0, a0.fb0, a0.f9, a0.fa6, a0.fa1, a0.fb1, a0.fa2, a0.fv, a0.fo.fk, a0.fo.fa4, a0.fo.fv, a0.fo.fb9, a0.fo.fb8, a0.fb3))))))))))))))))))))))))))))))))))))))
def YN (a0 : Qo) (a1 : Int) (r : Qo) : Prop := VI a0 a1 fun x => r = x
theorem Hf {a0 : Qo} {a1 : Int} {Post : Qo → Prop} (h : VI a0 a1 Post) : ∃ r, YN a0 a1 r ∧ Post r := (show GM (VI a0 a1) (VI a0 a1) from GM.join (fun p1 => GM.ret _) (fun _ _ J1 => GM.cond (J1 _) (GM.cond (GM.ex fun v2 => J1 _) (GM.cond (GM.ex fun v3 => J1 _) (GM.cond (GM.and (GM.ex fun v5 => GM.and (J1 _))) (GM.cond (GM.and (J1 _)) (GM.cond (J1 _) (GM.cond (GM.and (GM.ex fun v9 => GM.and (J1 _))) (GM.cond (GM.and (J1 _)) (GM.cond (GM.and (J1 _)) (GM.cond (GM.ex fun v13 => J1 _) (GM.cond (GM.ex fun v14 => J1 _) (GM.cond (J1 _) (GM.cond (J1 _) (GM.cond (J1 _) (GM.cond (J1 _) (GM.cond (GM.ex fun v15 => J1 _) (GM.cond (GM.and (J1 _)) (GM.cond (J1 _) (J1 _)))))))))))))))))))) Post h
theorem Hg {a0 : Qo} {a1 : Int} {r : Qo} (h : YN a0 a1 r) : Qq Tryz.prog 7 [.agg (Zf a0), .c (.v (.int .i64 a1))] [.agg [.p (.v (.int .i64 r.fk)), .p (.v (.string r.fb4)), .p (.v (.string r.fi)), .p (.l 1 (List.map eS r.fa0)), .p (.v (.int .i64 r.fa.fk)), .p (.v (.int .i64 r.fa.fg)), .p (.v (.int .i64 r.fa.fu)), .p (.v (.int .u64 r.fa.fw)), .p (.l 2 (List.map QJ r.f0)), .p (.l 1 (List.map (eI .u8) r.fb0)), .p (.v (.int .i64 r.f9)), .p (.v (.int .i64 r.fa6)), .p (.v (.int .i64 r.fa1)), .p (.v (.int .i64 r.fb1)), .p (.v (.int .i64 r.fa2)), .p (.v (.int .i64 r.fv)), .p (.v (.int .i64 r.fo.fk)), .p (.v (.string r.fo.fa4)), .p (.v (.int .i64 r.fo.fv)), .p (.v (.int .i64 r.fo.fb9)), .p (.v (.int .i64 r.fo.fb8)), .p (.l 1 (List.map (eI .u8) r.fb3))]] [] := by
  refine Qn tb Tryz.func7 Z (by kernel_rfl) Z Z (Nat.le_of_ble_eq_true Z) Z ?_;intro E;unfold YN VI at h;refine Z3 (fun Q hQ => ?_);refine tD Z ?_;refine tD Z ?_;refine Z5 (fun (p1 : Int × ByteArray × ByteArray × (List ByteArray) × Int × Int × Int × Int × (List Qh) × (List Int) × Int × Int × Int × Int × Int × Int × Int × ByteArray × Int × Int × Int × (List Int)) => (⟨[(2, .c (.ptr (2, 0) 0 0)), (4, .c (.ptr (4, 0) 0 0))], [((2, 0), some (.box ([.p (.v (.int .i64 p1.1)), .p (.v (.string p1.2.1)), .p (.v (.string p1.2.2.1)), .p (.l 1 (List.map eS p1.2.2.2.1)), .p (.v (.int .i64 p1.2.2.2.2.1)), .p (.v (.int .i64 p1.2.2.2.2.2.1)), .p (.v (.int .i64 p1.2.2.2.2.2.2.1)), .p (.v (.int .u64 p1.2.2.2.2.2.2.2.1)), .p (.l 2 (List.map QJ p1.2.2.2.2.2.2.2.2.1)), .p (.l 1 (List.map (eI .u8) p1.2.2.2.2.2.2.2.2.2.1)), .p (.v (.int .i64 p1.2.2.2.2.2.2.2.2.2.2.1)), .p (.v (.int .i64 p1.2.2.2.2.2.2.2.2.2.2.2.1)), .p (.v (.int .i64 p1.2.2.2.2.2.2.2.2.2.2.2.2.1)), .p (.v (.int .i64 p1.2.2.2.2.2.2.2.2.2.2.2.2.2.1)), .p (.v (.int .i64 p1.2.2.2.2.2.2.2.2.2.2.2.2.2.2.1)), .p (.v (.int .i64 p1.2.2.2.2.2.2.2.2.2.2.2.2.2.2.2.1)), .p (.v (.int .i64 p1.2.2.2.2.2.2.2.2.2.2.2.2.2.2.2.2.1)), .p (.v (.string p1.2.2.2.2.2.2.2.2.2.2.2.2.2.2.2.2.2.1)), .p (.v (.int .i64 p1.2.2.2.2.2.2.2.2.2.2.2.2.2.2.2.2.2.2.1)), .p (.v (.int .i64 p1.2.2.2.2.2.2.2.2.2.2.2.2.2.2.2.2.2.2.2.1)), .p (.v (.int .i64 p1.2.2.2.2.2.2.2.2.2.2.2.2.2.2.2.2.2.2.2.2.1)), .p (.l 1 (List.map (eI .u8) p1.2.2.2.2.2.2.2.2.2.2.2.2.2.2.2.2.2.2.2.2.2))]))), ((4, 0), some (.box ([.p (.v (.int .i64 0)), .p (.v (.string ByteArray.empty)), .p (.v (.string ByteArray.empty)), .p (.v (.slice none 0 0)), .p (.v (.int .i64 0)), .p (.v (.int .i64 0)), .p (.v (.int .i64 0)), .p (.v (.int .u64 0)), .p (.v (.slice none 0 0)), .p (.v (.slice none 0 0)), .p (.v (.int .i64 0)), .p (.v (.int .i64 0)), .p (.v (.int .i64 0)), .p (.v (.int .i64 0)), .p (.v (.int .i64 0)), .p (.v (.int .i64 0)), .p (.v (.int .i64 0)), .p (.v (.string ByteArray.empty)), .p (.v (.int .i64 0)), .p (.v (.int .i64 0)), .p (.v (.int .i64 0)), .p (.v (.slice none 0 0))])))]⟩ : St)) h (fun p1 h => ?_) (fun J1 L1 hL1 h => ?_)
  · refine tD Z ?_;obtain rfl := h;exact Qf (hQ _ _ ⟨.inr Z, _, _, _, (.cons (.cella Z Z Z Z Z) .nil), (.cons (.agg (Qr (Qr (Qr (Qr (Qr (Qr (Qr (Qr (Qr (Qr (Qr (Qr (Qr (Qr (Qr (Qr (Qr (Qr (Qr (Qr (Qr (Qr .nil))))))))))))))))))))))) .nil), Z, Z⟩)
  · refine tD Z ?_;refine Qt ?_;refine tD Z ?_;refine cn h (fun h => ?_) fun h => ?_
    · refine tE Z (hL1 _ _ h QB.fit)
    · refine tD Z ?_;refine cn h (fun h => ?_) fun h => ?_
      · refine tl fun L hL => ?_;refine ul (QD (rows := List.map eS [((⟨#[]⟩ : ByteArray)), ((⟨#[65]⟩ : ByteArray)), ((⟨#[97, 45, 49, 46, 120]⟩ : ByteArray)), ((⟨#[48, 49, 50, 51, 52, 53, 54, 55, 56, 57, 48, 49, 50, 51, 52, 53, 54]⟩ : ByteArray))])) ?_;refine dN 2 Z ?_;obtain ⟨v2, hv2, h⟩ := h;refine u0 (QU hv2) ?_;refine u0 (QW Z Z (gm hv2.2)) ?_;refine dN 2 Z ?_;refine rt (hL _ (hL1 _ _ h QB.fit))
      · refine tD Z ?_;refine cn h (fun h => ?_) fun h => ?_
        · refine tl fun L hL => ?_;refine ul (QD (rows := List.map eS [((⟨#[]⟩ : ByteArray)), ((⟨#[98]⟩ : ByteArray)), ((⟨#[98, 32, 98]⟩ : ByteArray)), ((⟨#[99]⟩ : ByteArray))])) ?_;refine dN 2 Z ?_;obtain ⟨v3, hv3, h⟩ := h;refine u0 (QU hv3) ?_;refine u0 (QW Z Z (gm hv3.2)) ?_;refine dN 2 Z ?_;refine rt (hL _ (hL1 _ _ h QB.fit))
        · refine tD Z ?_;refine cn h (fun h => ?_) fun h => ?_
          · refine dl mixed (fun L hL => ?_);refine dN 2 Z ?_;obtain ⟨hm4, h⟩ := h;refine ul (JR (f := eS) (L := a0.fa0) hm4 Z Z Z Z Z Z Z Z Z Z (V5 QL Z Z Z Z Z)) ?_;refine ul (QD (rows := List.map eS [((⟨#[]⟩ : ByteArray)), ((⟨#[97]⟩ : ByteArray)), ((⟨#[63]⟩ : ByteArray))])) ?_;refine dN 2 Z ?_;obtain ⟨v5, hv5, h⟩ := h;refine u0 (QU hv5) ?_;refine u0 (QW Z Z (gm hv5.2)) ?_;refine ul (QD (rows := List.map eS [v5])) ?_;obtain ⟨hm6, h⟩ := h;refine ul (QK (f := eS) (L := a0.fa0) (L' := [v5]) hm6 Z Z Z Z Z Z Z Z Z Z Z (Z0 QL Z Z Z Z Z Z)) ?_;refine dN 2 Z ?_;refine rd (hL _ (hL1 _ _ h ((QB.frz (44, 0)).trans ((QB.cells (2, 0) Z (.c (.c (.c (.cons (.fr (b := (44, 0)) Z (QG Z)) (.c (.c (.c (.c (.c (.c (.c (.c (.c (.c (.c (.c (.c (.c (.c (.c (.c (.c .nil))))))))))))))))))))))).trans QB.fit))))
          · refine tD Z ?_;refine cn h (fun h => ?_) fun h => ?_
            · refine tl fun L hL => ?_;refine dN 2 Z ?_;obtain ⟨hm7, h⟩ := h;refine u1 (XS (f := eS) (z := ByteArray.empty) hm7 Z Z Z Z Z Z Z Z Z (.c .nil)) ?_;refine dN 2 Z ?_;refine rt (hL _ (hL1 _ _ h ((QB.frz (50, 0)).trans ((QB.cells (2, 0) Z (.c (.c (.c (.cons (.fr (b := (50, 0)) Z (QG Z)) (.c (.c (.c (.c (.c (.c (.c (.c (.c (.c (.c (.c (.c (.c (.c (.c (.c (.c .nil))))))))))))))))))))))).trans QB.fit))))
            · refine tD Z ?_;refine cn h (fun h => ?_) fun h => ?_
              · refine tE Z (hL1 _ _ h QB.fit)
              · refine tD Z ?_;refine cn h (fun h => ?_) fun h => ?_
                · refine tl fun L hL => ?_;refine dN 2 Z ?_;obtain ⟨hm8, h⟩ := h;refine ul (JR (f := QJ) (L := a0.f0) hm8 Z Z Z Z Z Z Z Z Z Z (V5 QL Z Z Z Z Z)) ?_;refine dN 1 Z ?_;obtain ⟨v9, hv9, h⟩ := h;refine u0 (QQ (UU hv9)) ?_;refine dN 4 Z ?_;refine ul (QD (rows := List.map QJ [(Qh.mk v9 (IntKind.i64.wrap (((QM .i64 (QH .i64 a1 5) 16777215).tmod 3) - 1)))])) ?_;obtain ⟨hm10, h⟩ := h;refine ul (QK (f := QJ) (L := a0.f0) (L' := [(Qh.mk v9 (IntKind.i64.wrap (((QM .i64 (QH .i64 a1 5) 16777215).tmod 3) - 1)))]) hm10 Z Z Z Z Z Z Z Z Z Z Z (Z0 QL Z Z Z Z Z Z)) ?_;refine dN 2 Z ?_;refine rt (hL _ (hL1 _ _ h ((QB.frz (76, 0)).trans ((QB.cells (2, 0) Z (.c (.c (.c (.c (.c (.c (.c (.c (.cons (.fr (b := (76, 0)) Z (QG Z)) (.c (.c (.c (.c (.c (.c (.c (.c (.c (.c (.c (.c (.c .nil))))))))))))))))))))))).trans QB.fit))))
                · refine tD Z ?_;refine cn h (fun h => ?_) fun h => ?_
                  · refine tl fun L hL => ?_;refine dN 3 Z ?_;obtain ⟨hm11, h⟩ := h;refine u1 (XS (f := QJ) (z := (Qh.mk ByteArray.empty 0)) hm11 Z Z Z Z Z Z Z Z Z (.c (.c .nil))) ?_;refine dN 2 Z ?_;refine rt (hL _ (hL1 _ _ h ((QB.frz (83, 0)).trans ((QB.cells (2, 0) Z (.c (.c (.c (.c (.c (.c (.c (.c (.cons (.fr (b := (83, 0)) Z (QG Z)) (.c (.c (.c (.c (.c (.c (.c (.c (.c (.c (.c (.c (.c .nil))))))))))))))))))))))).trans QB.fit))))
                  · refine tD Z ?_;refine cn h (fun h => ?_) fun h => ?_
                    · refine tl fun L hL => ?_;refine dN 3 Z ?_;obtain ⟨hm12, h⟩ := h;refine u1 (XS (f := (eI .u8)) (z := 0) hm12 Z Z Z Z Z Z Z Z Z (.c .nil)) ?_;refine dN 2 Z ?_;refine rt (hL _ (hL1 _ _ h ((QB.frz (90, 0)).trans ((QB.cells (2, 0) Z (.c (.c (.c (.c (.c (.c (.c (.c (.c (.cons (.fr (b := (90, 0)) Z (QG Z)) (.c (.c (.c (.c (.c (.c (.c (.c (.c (.c (.c (.c .nil))))))))))))))))))))))).trans QB.fit))))
                    · refine tD Z ?_;refine cn h (fun h => ?_) fun h => ?_
                      · refine tl fun L hL => ?_;refine ul (QD (rows := List.map (eI .i64) [0, 1, 1048576, 1048577])) ?_;refine dN 2 Z ?_;obtain ⟨v13, hv13, h⟩ := h;refine u0 (QU hv13) ?_;refine u0 (QW Z Z (gm hv13.2)) ?_;refine dN 2 Z ?_;refine rt (hL _ (hL1 _ _ h QB.fit))
                      · refine tD Z ?_;refine cn h (fun h => ?_) fun h => ?_
                        · refine tl fun L hL => ?_;refine ul (QD (rows := List.map (eI .i64) [0, 1, 1048576, 1048577])) ?_;refine dN 2 Z ?_;obtain ⟨v14, hv14, h⟩ := h;refine u0 (QU hv14) ?_;refine u0 (QW Z Z (gm hv14.2)) ?_;refine dN 2 Z ?_;refine rt (hL _ (hL1 _ _ h QB.fit))
                        · refine tD Z ?_;refine cn h (fun h => ?_) fun h => ?_
                          · refine tE Z (hL1 _ _ h QB.fit)
                          · refine tD Z ?_;refine cn h (fun h => ?_) fun h => ?_
                            · refine tE Z (hL1 _ _ h QB.fit)
                            · refine tD Z ?_;refine cn h (fun h => ?_) fun h => ?_
                              · refine tE Z (hL1 _ _ h QB.fit)
                              · refine tD Z ?_;refine cn h (fun h => ?_) fun h => ?_
                                · refine tE Z (hL1 _ _ h QB.fit)
                                · refine tD Z ?_;refine cn h (fun h => ?_) fun h => ?_
                                  · refine tl fun L hL => ?_;refine dN 1 Z ?_;obtain ⟨v15, hv15, h⟩ := h;refine u0 (QQ (Ew hv15)) ?_;refine dN 2 Z ?_;refine rt (hL _ (hL1 _ _ h QB.fit))
                                  · refine tD Z ?_;refine cn h (fun h => ?_) fun h => ?_
                                    · refine tl fun L hL => ?_;refine dN 3 Z ?_;obtain ⟨hm16, h⟩ := h;refine u1 (XS (f := (eI .u8)) (z := 0) hm16 Z Z Z Z Z Z Z Z Z (.c .nil)) ?_;refine dN 2 Z ?_;refine rt (hL _ (hL1 _ _ h ((QB.frz (142, 0)).trans ((QB.cells (2, 0) Z (.c (.c (.c (.c (.c (.c (.c (.c (.c (.c (.c (.c (.c (.c (.c (.c (.c (.c (.c (.c (.c (.cons (.fr (b := (142, 0)) Z (QG Z)) .nil))))))))))))))))))))))).trans QB.fit))))
                                    · refine tD Z ?_;refine QS (st' := ⟨[(2, .c (.ptr (2, 0) 0 0)), (4, .c (.ptr (4, 0) 0 0)), (144, .c (.p (.v (.bool (((QM .i64 a1 31) == 17))))))], [((2, 0), some (.box (List.map CV.p (Zf a0)))), ((4, 0), some (.box ([.p (.v (.int .i64 0)), .p (.v (.string ByteArray.empty)), .p (.v (.string ByteArray.empty)), .p (.v (.slice none 0 0)), .p (.v (.int .i64 0)), .p (.v (.int .i64 0)), .p (.v (.int .i64 0)), .p (.v (.int .u64 0)), .p (.v (.slice none 0 0)), .p (.v (.slice none 0 0)), .p (.v (.int .i64 0)), .p (.v (.int .i64 0)), .p (.v (.int .i64 0)), .p (.v (.int .i64 0)), .p (.v (.int .i64 0)), .p (.v (.int .i64 0)), .p (.v (.int .i64 0)), .p (.v (.string ByteArray.empty)), .p (.v (.int .i64 0)), .p (.v (.int .i64 0)), .p (.v (.int .i64 0)), .p (.v (.slice none 0 0))])))]⟩) QB.fit ?_;refine cn h (fun h => ?_) fun h => ?_
                                      · refine tl fun L hL => ?_;refine ul (QD (rows := List.map (eI .u8) [1])) ?_;refine dN 2 Z ?_;refine rt (hL _ (hL1 _ _ h ((QB.frz (146, 0)).trans ((QB.cells (2, 0) Z (.c (.c (.c (.c (.c (.c (.c (.c (.c (.c (.c (.c (.c (.c (.c (.c (.c (.c (.c (.c (.c (.cons (.fr (b := (146, 0)) Z (QG Z)) .nil))))))))))))))))))))))).trans QB.fit))))
                                      · refine Qi (hL1 _ _ h QB.fit)
def Uu (a0 : Int) (Q : Bool → Prop) : Prop :=
 Q (((bif decide (a0 ≥ 97) then decide (a0 ≤ 122) else false)))
def Xb (a0 : Int) (r : Bool) : Prop := Uu a0 fun x => r = x
theorem BL {a0 : Int} {r : Bool} (h : Xb a0 r) : Qq Tryz.prog 133 [.c (.v (.int .u8 a0))] [.c (.p (.v (.bool r)))] [] := by
  refine Qn tb Tryz.func133 Z (by kernel_rfl) Z Z (Nat.le_of_ble_eq_true Z) Z ?_;intro E;unfold Xb Uu at h;refine Z3 (fun Q hQ => ?_);refine tD Z ?_;refine tk fun L hL => ?_;refine dN 3 Z ?_;refine Q2 Z Z Q6 (fun hg => Qd Z Z) ?_;refine Q2 Z Z Q6 (fun hg => Qz (c := decide (a0 ≤ 122)) (Qb hg) Z Z Z Z) ?_;refine u0 (Ql (v := .bool (decide (a0 ≤ 122))) (w := .bool false) Z Z Q6 Z Qw) ?_;refine dN 1 Z ?_;refine rt (hL _ ?_);obtain rfl := h;exact Qf (hQ _ _ (Zt Z Z))
def Uv (a0 : Int) (Q : Bool → Prop) : Prop :=
 Q (((bif decide (a0 ≥ 48) then decide (a0 ≤ 57) else false)))
def Y9 (a0 : Int) (r : Bool) : Prop := Uv a0 fun x => r = x
theorem G7 {a0 : Int} {r : Bool} (h : Y9 a0 r) : Qq Tryz.prog 134 [.c (.v (.int .u8 a0))] [.c (.p (.v (.bool r)))] [] := by
  refine Qn tb Tryz.func134 Z (by kernel_rfl) Z Z (Nat.le_of_ble_eq_true Z) Z ?_;intro E;unfold Y9 Uv at h;refine Z3 (fun Q hQ => ?_);refine tD Z ?_;refine tk fun L hL => ?_;refine dN 3 Z ?_;refine Q2 Z Z Q6 (fun hg => Qd Z Z) ?_;refine Q2 Z Z Q6 (fun hg => Qz (c := decide (a0 ≤ 57)) (Qb hg) Z Z Z Z) ?_;refine u0 (Ql (v := .bool (decide (a0 ≤ 57))) (w := .bool false) Z Z Q6 Z Qw) ?_;refine dN 1 Z ?_;refine rt (hL _ ?_);obtain rfl := h;exact Qf (hQ _ _ (Zt Z Z))
def U3 (a0 : ByteArray) (Q : Bool → Prop) : Prop :=
 ∃ (v2 : Int), ((!((bif decide (((a0.size : Int)) < 1) then true else decide (((a0.size : Int)) > 16)))) = true → bx a0 0 v2) ∧ ∃ (v3 : Bool), ((!((bif decide (((a0.size : Int)) < 1) then true else decide (((a0.size : Int)) > 16)))) = true → Xb v2 v3) ∧ ((((bif (bif decide (((a0.size : Int)) < 1) then true else decide (((a0.size : Int)) > 16)) then true else !(v3))) = true → Q false) ∧ (((bif (bif decide (((a0.size : Int)) < 1) then true else decide (((a0.size : Int)) > 16)) then true else !(v3))) = false → jn (fun (p4 : Unit) => Q true) (fun (J4 : Unit → Prop) => lp (fun (X5 : Int → Prop) (s5 : Int) => (((decide (s5 < ((a0.size : Int)))) = true → ∃ v8, bx a0 s5 v8 ∧ ∃ v9, Xb v8 v9 ∧ ∃ (v10 : Bool), ((!(v9)) = true → Y9 v8 v10) ∧ ((((bif (bif (bif !(v9) then !(v10) else false) then (v8 != 45) else false) then (v8 != 46) else false)) = true → Q false) ∧ (((bif (bif (bif !(v9) then !(v10) else false) then (v8 != 45) else false) then (v8 != 46) else false)) = false → X5 ((IntKind.i64.wrap (s5 + 1)))))) ∧ ((decide (s5 < ((a0.size : Int)))) = false → J4 (())))) 0)))
def Xy (a0 : ByteArray) (r : Bool) : Prop := U3 a0 fun x => r = x
theorem Fo {a0 : ByteArray} {r : Bool} (h : Xy a0 r) : Qq Tryz.prog 110 [.c (.v (.string a0))] [.c (.p (.v (.bool r)))] [] := by
  refine Qn tb Tryz.func110 Z (by kernel_rfl) Z Z (Nat.le_of_ble_eq_true Z) Z ?_;intro E;unfold Xy U3 at h;refine Z3 (fun Q hQ => ?_);refine tD Z ?_;refine sk fun L1 hL1 => ?_;refine tk fun L hL => ?_;refine dN 1 Z ?_;refine u0 Kh ?_;refine dN 2 Z ?_;refine Q2 Z Z Q4 (fun hg => Qd Z Z) ?_;refine Q2 Z Z Q4 (fun hg => Kh (Qb hg) Z Z Z) ?_;refine Q2 Z Z Q4 (fun hg => Qz (c := decide (((a0.size : Int)) > 16)) (Qb hg) Z Z Z Z) ?_;refine u0 (Qm (v := .bool true) (w := .bool (decide (((a0.size : Int)) > 16))) Z Z Q4 Z Qw) ?_;refine dN 1 Z ?_;refine Q2 Z Z Q4 (fun hg => Qd Z Z) ?_;obtain ⟨v2, hv2, h⟩ := h;refine Q2 Z Z Q4 (fun hg => Vw (hv2 hg) (Qb hg) Z Z Z Z Z) ?_;obtain ⟨v3, hv3, h⟩ := h;refine Q2 Z Z Q4 (fun hg => QN (BL (hv3 hg)) Z Z (.cons (Zh hg (.c (.p _))) .nil) Z Z Z) ?_;refine Q2 Z Z Q4 (fun hg => Z4 (Qb hg) Z Z) ?_;refine u0 (Qm (v := .bool true) (w := .bool (!(v3))) Z Z Q4 Z Qw) ?_;refine rt (hL _ ?_);refine cn h (fun h => ?_) fun h => ?_
  · refine tD Z ?_;obtain rfl := h;exact Qf (hQ _ _ (Zt Z Z))
  · refine Qi (hL1 _ ?_);refine QS (st' := ⟨[(0, .c (.p (.v (.string a0))))], []⟩) QB.fit ?_;refine Z5 (fun (p4 : Unit) => (⟨[], []⟩ : St)) h (fun p4 h => ?_) (fun J4 L4 hL4 h => ?_)
    · refine tD Z ?_;obtain rfl := h;exact Qf (hQ _ _ (Zt Z Z))
    · refine tk fun L hL => ?_;refine dN 1 Z ?_;refine u0 Kh ?_;refine dN 1 Z ?_;refine rt (hL _ ?_);refine Qt ?_;refine Zs (fun (s5 : Int) => (⟨[(0, .c (.p (.v (.string a0)))), (20, .c (.p (.v (.int .i64 ((a0.size : Int)))))), (21, .c (.p (.v (.int .i64 s5))))], []⟩ : St)) h QB.fit (fun X5 L5 hL5 s5 h => ?_);refine tD Z ?_;refine sk fun L6 hL6 => ?_;refine cn h (fun h => ?_) fun h => ?_
      · refine Qi (hL6 _ ?_);refine sk fun L7 hL7 => ?_;refine Qt ?_;refine tD Z ?_;refine tk fun L hL => ?_;refine dN 2 Z ?_;obtain ⟨v8, hv8, h⟩ := h;refine u0 (Vw hv8) ?_;refine dN 1 Z ?_;refine rt (hL _ ?_);refine tk fun L hL => ?_;refine dN 1 Z ?_;obtain ⟨v9, hv9, h⟩ := h;refine u0 (QQ (BL hv9)) ?_;refine dN 2 Z ?_;refine Q2 Z Z Q6 (fun hg => Qd Z Z) ?_;obtain ⟨v10, hv10, h⟩ := h;refine Q2 Z Z Q6 (fun hg => QN (G7 (hv10 hg)) Z Z (.cons (Zh hg (.c (.p _))) .nil) Z Z Z) ?_;refine Q2 Z Z Q6 (fun hg => Z4 (Qb hg) Z Z) ?_;refine u0 (Ql (v := .bool (!(v10))) (w := .bool false) Z Z Q6 Z Qw) ?_;refine dN 1 Z ?_;refine Q2 Z Z Q6 (fun hg => Qd Z Z) ?_;refine Q2 Z Z Q6 (fun hg => Qz (c := (v8 != 45)) (Qb hg) Z Z Z Z) ?_;refine u0 (Ql (v := .bool ((v8 != 45))) (w := .bool false) Z Z Q6 Z Qw) ?_;refine dN 1 Z ?_;refine Q2 Z Z Q6 (fun hg => Qd Z Z) ?_;refine Q2 Z Z Q6 (fun hg => Qz (c := (v8 != 46)) (Qb hg) Z Z Z Z) ?_;refine u0 (Ql (v := .bool ((v8 != 46))) (w := .bool false) Z Z Q6 Z Qw) ?_;refine rt (hL _ ?_)
        refine cn h (fun h => ?_) fun h => ?_
        · refine tD Z ?_;obtain rfl := h;exact Qf (hQ _ _ (Zt Z Z))
        · refine Qi (hL7 _ ?_);refine QS (st' := ⟨[(0, .c (.p (.v (.string a0)))), (20, .c (.p (.v (.int .i64 ((a0.size : Int)))))), (21, .c (.p (.v (.int .i64 s5))))], []⟩) QB.fit ?_;refine tE Z (hL5 _ _ h QB.fit)
      · refine QT (hL4 _ _ h QB.fit)
def UK (a0 : ByteArray) (Q : Int → Prop) : Prop :=
 ∃ v2, Xy a0 v2 ∧ (((!(v2)) = true → Q 6) ∧ ((!(v2)) = false → Q 0))
def JB (a0 : ByteArray) (r : Int) : Prop := UK a0 fun x => r = x
theorem Wb {a0 : ByteArray} {r : Int} (h : JB a0 r) : Qq Tryz.prog 68 [.c (.v (.string a0))] [.c (.p (.v (.int .i64 r)))] [] := by
  refine Qn tb Tryz.func68 Z (by kernel_rfl) Z Z (Nat.le_of_ble_eq_true Z) Z ?_;intro E;unfold JB UK at h;refine Z3 (fun Q hQ => ?_);refine tD Z ?_;refine sk fun L1 hL1 => ?_;refine tk fun L hL => ?_;refine dN 1 Z ?_;obtain ⟨v2, hv2, h⟩ := h;refine u0 (QQ (Fo hv2)) ?_;refine dN 1 Z ?_;refine rt (hL _ ?_);refine cn h (fun h => ?_) fun h => ?_
  · refine tD Z ?_;obtain rfl := h;exact Qf (hQ _ _ (Zt Z Z))
  · refine Qi (hL1 _ ?_);refine tD Z ?_;obtain rfl := h;exact Qf (hQ _ _ (Zt Z Z))
def XU (a0 : Int) (a1 : Int) (a2 : Int) (Q : Int → Prop) : Prop :=
 ((((bif decide (a0 < a1) then true else decide (a0 > a2))) = true → Q 5) ∧ (((bif decide (a0 < a1) then true else decide (a0 > a2))) = false → Q 0))
def Za (a0 : Int) (a1 : Int) (a2 : Int) (r : Int) : Prop := XU a0 a1 a2 fun x => r = x
theorem ZI {a0 : Int} {a1 : Int} {a2 : Int} {r : Int} (h : Za a0 a1 a2 r) : Qq Tryz.prog 73 [.c (.v (.int .i64 a0)), .c (.v (.int .i64 a1)), .c (.v (.int .i64 a2))] [.c (.p (.v (.int .i64 r)))] [] := by
  refine Qn tb Tryz.func73 Z (by kernel_rfl) Z Z (Nat.le_of_ble_eq_true Z) Z ?_;intro E;unfold Za XU at h;refine Z3 (fun Q hQ => ?_);refine tD Z ?_;refine sk fun L1 hL1 => ?_;refine tk fun L hL => ?_;refine dN 4 Z ?_;refine Q2 Z Z Q4 (fun hg => Qd Z Z) ?_;refine Q2 Z Z Q4 (fun hg => Qd Z Z) ?_;refine Q2 Z Z Q4 (fun hg => Qz (c := decide (a0 > a2)) (Qb hg) (Qb hg) Z Z Z) ?_;refine u0 (Qm (v := .bool true) (w := .bool (decide (a0 > a2))) Z Z Q4 Z Qw) ?_;refine rt (hL _ ?_);refine cn h (fun h => ?_) fun h => ?_
  · refine tD Z ?_;obtain rfl := h;exact Qf (hQ _ _ (Zt Z Z))
  · refine Qi (hL1 _ ?_);refine QS (st' := ⟨[], []⟩) QB.fit ?_;refine tD Z ?_;obtain rfl := h;exact Qf (hQ _ _ (Zt Z Z))
def Wc (a0 : (List ByteArray)) (Q : Int → Prop) : Prop :=
 ∃ v2, Za ((a0.length : Int)) 1 16 v2 ∧ ((((v2 != 0)) = true → Q v2) ∧ (((v2 != 0)) = false → jn (fun (p3 : Unit) => Q 0) (fun (J3 : Unit → Prop) => lp (fun (X4 : Int → Prop) (s4 : Int) => (((decide (s4 < ((a0.length : Int)))) = true → ∃ v7, ix a0 s4 v7 ∧ ∃ v8, JB v7 v8 ∧ ((((v8 != 0)) = true → Q v8) ∧ (((v8 != 0)) = false → X4 ((IntKind.i64.wrap (s4 + 1)))))) ∧ ((decide (s4 < ((a0.length : Int)))) = false → J3 (())))) 0)))
def Vl (a0 : (List ByteArray)) (r : Int) : Prop := Wc a0 fun x => r = x
theorem DO {a0 : (List ByteArray)} {r : Int} (h : Vl a0 r) : Qq Tryz.prog 69 [.c (.l 1 (List.map eS a0))] [.c (.p (.v (.int .i64 r)))] [] := by
  refine Qn tb Tryz.func69 Z (by kernel_rfl) Z Z (Nat.le_of_ble_eq_true Z) Z ?_;intro E;unfold Vl Wc at h;refine Z3 (fun Q hQ => ?_);refine tD Z ?_;refine sk fun L1 hL1 => ?_;refine tk fun L hL => ?_;refine dN 1 Z ?_;refine u0 QA ?_;obtain ⟨v2, hv2, h⟩ := h;refine u0 (QQ (ZI hv2)) ?_;refine dN 1 Z ?_;refine rt (hL _ ?_);refine tD Z ?_;refine cn h (fun h => ?_) fun h => ?_
  · refine tD Z ?_;obtain rfl := h;exact Qf (hQ _ _ (Zt Z Z))
  · refine Qi (hL1 _ ?_);refine Z5 (fun (p3 : Unit) => (⟨[], []⟩ : St)) h (fun p3 h => ?_) (fun J3 L3 hL3 h => ?_)
    · refine tD Z ?_;obtain rfl := h;exact Qf (hQ _ _ (Zt Z Z))
    · refine tk fun L hL => ?_;refine dN 1 Z ?_;refine u0 QA ?_;refine dN 1 Z ?_;refine rt (hL _ ?_);refine Qt ?_;refine Zs (fun (s4 : Int) => (⟨[(13, .c (.p (.l 1 (List.map eS a0)))), (14, .c (.p (.v (.int .i64 ((a0.length : Int)))))), (15, .c (.p (.v (.int .i64 s4))))], []⟩ : St)) h QB.fit (fun X4 L4 hL4 s4 h => ?_);refine tD Z ?_;refine sk fun L5 hL5 => ?_;refine cn h (fun h => ?_) fun h => ?_
      · refine Qi (hL5 _ ?_);refine sk fun L6 hL6 => ?_;refine Qt ?_;refine tk fun L hL => ?_;obtain ⟨v7, hv7, h⟩ := h;refine u0 (QC hv7) ?_;refine dN 2 Z ?_;refine rt (hL _ ?_);refine tk fun L hL => ?_;refine dN 1 Z ?_;obtain ⟨v8, hv8, h⟩ := h;refine u0 (QQ (Wb hv8)) ?_;refine dN 1 Z ?_;refine rt (hL _ ?_);refine tD Z ?_;refine cn h (fun h => ?_) fun h => ?_
        · refine tD Z ?_;obtain rfl := h;exact Qf (hQ _ _ (Zt Z Z))
        · refine Qi (hL6 _ ?_);refine tE Z (hL4 _ _ h QB.fit)
      · refine QT (hL3 _ _ h QB.fit)
def WG (a0 : Int) (a1 : Int) (a2 : Int) (Q : Bool → Prop) : Prop :=
 Q (((bif decide (a0 ≥ a1) then decide (a0 ≤ a2) else false)))
def Kd (a0 : Int) (a1 : Int) (a2 : Int) (r : Bool) : Prop := WG a0 a1 a2 fun x => r = x
theorem VT {a0 : Int} {a1 : Int} {a2 : Int} {r : Bool} (h : Kd a0 a1 a2 r) : Qq Tryz.prog 111 [.c (.v (.int .i64 a0)), .c (.v (.int .i64 a1)), .c (.v (.int .i64 a2))] [.c (.p (.v (.bool r)))] [] := by
  refine Qn tb Tryz.func111 Z (by kernel_rfl) Z Z (Nat.le_of_ble_eq_true Z) Z ?_;intro E;unfold Kd WG at h;refine Z3 (fun Q hQ => ?_);refine tD Z ?_;refine tk fun L hL => ?_;refine dN 4 Z ?_;refine Q2 Z Z Q6 (fun hg => Qd Z Z) ?_;refine Q2 Z Z Q6 (fun hg => Qd Z Z) ?_;refine Q2 Z Z Q6 (fun hg => Qz (c := decide (a0 ≤ a2)) (Qb hg) (Qb hg) Z Z Z) ?_;refine u0 (Ql (v := .bool (decide (a0 ≤ a2))) (w := .bool false) Z Z Q6 Z Qw) ?_;refine dN 1 Z ?_;refine rt (hL _ ?_);obtain rfl := h;exact Qf (hQ _ _ (Zt Z Z))
def Vm (a0 : Q9) (Q : Int → Prop) : Prop :=
 jn (fun (p1 : Bool × Bool × Bool × Bool) => (((!(p1.1)) = true → Q 5) ∧ ((!(p1.1)) = false → ((((bif (bif (bif !(p1.2.1) then (a0.fg != 0) else false) then true else (bif !(p1.2.2.1) then (a0.fu != 0) else false)) then true else (bif !(p1.2.2.2) then (a0.fw != 0) else false))) = true → Q 10) ∧ (((bif (bif (bif !(p1.2.1) then (a0.fg != 0) else false) then true else (bif !(p1.2.2.1) then (a0.fu != 0) else false)) then true else (bif !(p1.2.2.2) then (a0.fw != 0) else false))) = false → Q 0))))) (fun (J1 : Bool × Bool × Bool × Bool → Prop) => ((((a0.fk == 1)) = true → J1 (true, false, false, false)) ∧ (((a0.fk == 1)) = false → ((((a0.fk == 2)) = true → ∃ v2, Kd a0.fu 1 8 v2 ∧ ∃ (v3 : Bool), (v2 = true → Kd a0.fg 1 64 v3) ∧ J1 (((bif v2 then v3 else false)), true, true, true)) ∧ (((a0.fk == 2)) = false → ((((a0.fk == 3)) = true → ∃ v4, Kd a0.fg 2 8 v4 ∧ J1 (v4, true, false, true)) ∧ (((a0.fk == 3)) = false → jn (fun (p5 : Bool) => ((p5 = true → ∃ v6, Kd a0.fg 1 32 v6 ∧ J1 (v6, true, false, false)) ∧ (p5 = false → ((((a0.fk == 6)) = true → ∃ v7, Kd a0.fg 2 32 v7 ∧ J1 (((bif v7 then ((a0.fg.tmod 2) == 0) else false)), true, false, false)) ∧ (((a0.fk == 6)) = false → Q 8))))) (fun (J5 : Bool → Prop) => ((((a0.fk == 4)) = true → J5 (((a0.fk == 4)))) ∧ (((a0.fk == 4)) = false → J5 (((a0.fk == 5)))))))))))))
def Km (a0 : Q9) (r : Int) : Prop := Vm a0 fun x => r = x
theorem UL {a0 : Q9} {r : Int} (h : Km a0 r) : Qq Tryz.prog 70 [.agg (VA a0)] [.c (.p (.v (.int .i64 r)))] [] := by
  refine Qn tb Tryz.func70 Z (by kernel_rfl) Z Z (Nat.le_of_ble_eq_true Z) Z ?_;intro E;unfold Km Vm at h;refine Z3 (fun Q hQ => ?_);refine tD Z ?_;refine tD Z ?_;refine Z5 (fun (p1 : Bool × Bool × Bool × Bool) => (⟨[(1, .c (.ptr (1, 0) 0 0)), (3, .c (.p (.v (.bool p1.1)))), (4, .c (.p (.v (.bool p1.2.1)))), (5, .c (.p (.v (.bool p1.2.2.1)))), (6, .c (.p (.v (.bool p1.2.2.2))))], [((1, 0), some (.box (List.map CV.p (VA a0))))]⟩ : St)) h (fun p1 h => ?_) (fun J1 L1 hL1 h => ?_)
  · refine sk fun L8 hL8 => ?_;refine tD Z ?_;refine cn h (fun h => ?_) fun h => ?_
    · refine tD Z ?_;obtain rfl := h;exact Qf (hQ _ _ (Zt Z Z))
    · refine Qi (hL8 _ ?_);refine sk fun L9 hL9 => ?_;refine tk fun L hL => ?_;refine dN 3 Z ?_;refine Q2 Z Z Q6 (fun hg => Q7 Z Z Z Z Z Z Z Z Z) ?_;refine Q2 Z Z Q6 (fun hg => Q3 (Qb hg) Z Z Z Z Z) ?_;refine Q2 Z Z Q6 (fun hg => Qz (c := (a0.fg != 0)) (Qb hg) Z Z Z Z) ?_;refine u0 (Ql (v := .bool ((a0.fg != 0))) (w := .bool false) Z Z Q6 Z Qw) ?_;refine dN 1 Z ?_;refine Q2 Z Z Q4 (fun hg => Qd Z Z) ?_;refine Q2 Z Z Q4 (fun hg => Z4 (Qb hg) Z Z) ?_;refine Q2 Z Z Q4 (fun hg => Qd (Qb hg) Z) ?_;refine QE Z Z QO (fun hg => Q7 Z Z Z Z Z Z Z Z Z) ?_;refine QE Z Z QO (fun hg => Q3 (Qb hg) Z Z Z Z Z) ?_;refine QE Z Z QO (fun hg => Qz (c := (a0.fu != 0)) (Qb hg) Z Z Z Z) ?_;refine Q2 Z Z Q4 (fun hg => Ql (v := .bool ((a0.fu != 0))) (w := .bool false) (Qb hg) Z (JC hg) Z Qw Z Z Z) ?_;refine u0 (Qm (v := .bool true) (w := .bool ((bif !(p1.2.2.1) then (a0.fu != 0) else false))) Z Z Q4 Z Qw) ?_;refine dN 1 Z ?_;refine Q2 Z Z Q4 (fun hg => Qd Z Z) ?_;refine Q2 Z Z Q4 (fun hg => Z4 (Qb hg) Z Z) ?_
      refine Q2 Z Z Q4 (fun hg => Qd (Qb hg) Z) ?_;refine QE Z Z QO (fun hg => Q7 Z Z Z Z Z Z Z Z Z) ?_;refine QE Z Z QO (fun hg => Q3 (Qb hg) Z Z Z Z Z) ?_;refine QE Z Z QO (fun hg => Qz (c := (a0.fw != 0)) (Qb hg) Z Z Z Z) ?_;refine Q2 Z Z Q4 (fun hg => Ql (v := .bool ((a0.fw != 0))) (w := .bool false) (Qb hg) Z (JC hg) Z Qw Z Z Z) ?_;refine u0 (Qm (v := .bool true) (w := .bool ((bif !(p1.2.2.2) then (a0.fw != 0) else false))) Z Z Q4 Z Qw) ?_;refine rt (hL _ ?_);refine cn h (fun h => ?_) fun h => ?_
      · refine tD Z ?_;obtain rfl := h;exact Qf (hQ _ _ (Zt Z Z))
      · refine Qi (hL9 _ ?_);refine QS (st' := ⟨[], []⟩) QB.fit ?_;refine tD Z ?_;obtain rfl := h;exact Qf (hQ _ _ (Zt Z Z))
  · refine tD Z ?_;refine Qt ?_;refine tD Z ?_;refine cn h (fun h => ?_) fun h => ?_
    · refine tE Z (hL1 _ _ h QB.fit)
    · refine tD Z ?_;refine cn h (fun h => ?_) fun h => ?_
      · refine tk fun L hL => ?_;refine dN 2 Z ?_;obtain ⟨v2, hv2, h⟩ := h;refine u0 (QQ (VT hv2)) ?_;refine dN 1 Z ?_;refine Q2 Z Z Q6 (fun hg => Q7 Z Z Z Z Z Z Z Z Z) ?_;refine Q2 Z Z Q6 (fun hg => Q3 (Qb hg) Z Z Z Z Z) ?_;obtain ⟨v3, hv3, h⟩ := h;refine Q2 Z Z Q6 (fun hg => QN (VT (hv3 hg)) Z Z (.cons (Zh hg (.c (.p _))) (.cons (.c (.p _)) (.cons (.c (.p _)) .nil))) Z Z Z) ?_;refine u0 (Ql (v := .bool v3) (w := .bool false) Z Z Q6 Z Qw) ?_;refine dN 1 Z ?_;refine rt (hL _ ?_);refine tE Z (hL1 _ _ h QB.fit)
      · refine tD Z ?_;refine cn h (fun h => ?_) fun h => ?_
        · refine tk fun L hL => ?_;refine dN 2 Z ?_;obtain ⟨v4, hv4, h⟩ := h;refine u0 (QQ (VT hv4)) ?_;refine dN 1 Z ?_;refine rt (hL _ ?_);refine tE Z (hL1 _ _ h QB.fit)
        · refine Z5 (fun (p5 : Bool) => (⟨[(1, .c (.ptr (1, 0) 0 0)), (4, .c (.p (.v (.bool true)))), (5, .c (.p (.v (.bool false)))), (6, .c (.p (.v (.bool false)))), (8, .c (.p (.v (.int .i64 a0.fk)))), (26, .c (.p (.v (.bool p5))))], [((1, 0), some (.box (List.map CV.p (VA a0))))]⟩ : St)) h (fun p5 h => ?_) (fun J5 L5 hL5 h => ?_)
          · refine cn h (fun h => ?_) fun h => ?_
            · refine tl fun L hL => ?_;refine dN 2 Z ?_;obtain ⟨v6, hv6, h⟩ := h;refine u0 (QQ (VT hv6)) ?_;refine dN 1 Z ?_;refine rt (hL _ (hL1 _ _ h QB.fit))
            · refine tD Z ?_;refine cn h (fun h => ?_) fun h => ?_
              · refine tl fun L hL => ?_;refine dN 2 Z ?_;obtain ⟨v7, hv7, h⟩ := h;refine u0 (QQ (VT hv7)) ?_;refine dN 1 Z ?_;refine Q2 Z Z Q6 (fun hg => Q7 Z Z Z Z Z Z Z Z Z) ?_;refine Q2 Z Z Q6 (fun hg => Q3 (Qb hg) Z Z Z Z Z) ?_;refine Q2 Z Z Q6 (fun hg => F8 (by decide) (Qb hg) Z Z Z) ?_;refine Q2 Z Z Q6 (fun hg => Qz (c := ((a0.fg.tmod 2) == 0)) (Qb hg) Z Z Z Z) ?_;refine u0 (Ql (v := .bool (((a0.fg.tmod 2) == 0))) (w := .bool false) Z Z Q6 Z Qw) ?_;refine dN 1 Z ?_;refine rt (hL _ (hL1 _ _ h QB.fit))
              · refine tD Z ?_;obtain rfl := h;exact Qf (hQ _ _ (Zt Z Z))
          · refine tD Z ?_;refine cn h (fun h => ?_) fun h => ?_
            · refine Qi (hL5 _ _ h QB.fit)
            · refine tE Z (hL5 _ _ h QB.fit)
def Uw (a0 : ByteArray) (Q : Bool → Prop) : Prop :=
 Q (((bif decide (((a0.size : Int)) ≥ 1) then decide (((a0.size : Int)) ≤ 32) else false)))
def Xc (a0 : ByteArray) (r : Bool) : Prop := Uw a0 fun x => r = x
theorem BM {a0 : ByteArray} {r : Bool} (h : Xc a0 r) : Qq Tryz.prog 113 [.c (.v (.string a0))] [.c (.p (.v (.bool r)))] [] := by
  refine Qn tb Tryz.func113 Z (by kernel_rfl) Z Z (Nat.le_of_ble_eq_true Z) Z ?_;intro E;unfold Xc Uw at h;refine Z3 (fun Q hQ => ?_);refine tD Z ?_;refine tk fun L hL => ?_;refine dN 1 Z ?_;refine u0 Kh ?_;refine dN 2 Z ?_;refine Q2 Z Z Q6 (fun hg => Qd Z Z) ?_;refine Q2 Z Z Q6 (fun hg => Kh (Qb hg) Z Z Z) ?_;refine Q2 Z Z Q6 (fun hg => Qz (c := decide (((a0.size : Int)) ≤ 32)) (Qb hg) Z Z Z Z) ?_;refine u0 (Ql (v := .bool (decide (((a0.size : Int)) ≤ 32))) (w := .bool false) Z Z Q6 Z Qw) ?_;refine dN 1 Z ?_;refine rt (hL _ ?_);obtain rfl := h;exact Qf (hQ _ _ (Zt Z Z))
def Xz (a0 : Qh) (Q : Int → Prop) : Prop :=
 ∃ v2, Xc a0.fa4 v2 ∧ (((!(v2)) = true → Q 7) ∧ ((!(v2)) = false → ((((bif decide (a0.fa8 < 1) then true else decide (a0.fa8 > 4294967295))) = true → Q 5) ∧ (((bif decide (a0.fa8 < 1) then true else decide (a0.fa8 > 4294967295))) = false → Q 0))))
def Ja (a0 : Qh) (r : Int) : Prop := Xz a0 fun x => r = x
theorem B2 {a0 : Qh} {r : Int} (h : Ja a0 r) : Qq Tryz.prog 112 [.agg (QJ a0)] [.c (.p (.v (.int .i64 r)))] [] := by
  refine Qn tb Tryz.func112 Z (by kernel_rfl) Z Z (Nat.le_of_ble_eq_true Z) Z ?_;intro E;unfold Ja Xz at h;refine Z3 (fun Q hQ => ?_);refine tD Z ?_;refine sk fun L1 hL1 => ?_;refine tk fun L hL => ?_;refine dN 2 Z ?_;obtain ⟨v2, hv2, h⟩ := h;refine u0 (QQ (BM hv2)) ?_;refine dN 1 Z ?_;refine rt (hL _ ?_);refine cn h (fun h => ?_) fun h => ?_
  · refine tD Z ?_;obtain rfl := h;exact Qf (hQ _ _ (Zt Z Z))
  · refine Qi (hL1 _ ?_);refine sk fun L3 hL3 => ?_;refine tk fun L hL => ?_;refine dN 4 Z ?_;refine Q2 Z Z Q4 (fun hg => Q7 Z Z Z Z Z Z Z Z Z) ?_;refine Q2 Z Z Q4 (fun hg => Q3 (Qb hg) Z Z Z Z Z) ?_;refine Q2 Z Z Q4 (fun hg => Qz (c := decide (a0.fa8 > 4294967295)) (Qb hg) Z Z Z Z) ?_;refine u0 (Qm (v := .bool true) (w := .bool (decide (a0.fa8 > 4294967295))) Z Z Q4 Z Qw) ?_;refine rt (hL _ ?_);refine cn h (fun h => ?_) fun h => ?_
    · refine tD Z ?_;obtain rfl := h;exact Qf (hQ _ _ (Zt Z Z))
    · refine Qi (hL3 _ ?_);refine QS (st' := ⟨[], []⟩) QB.fit ?_;refine tD Z ?_;obtain rfl := h;exact Qf (hQ _ _ (Zt Z Z))
def YO (a0 : (List Qh)) (Q : Int → Prop) : Prop :=
 ∃ v2, Za ((a0.length : Int)) 1 64 v2 ∧ ((((v2 != 0)) = true → Q v2) ∧ (((v2 != 0)) = false → jn (fun (p3 : Unit) => Q 0) (fun (J3 : Unit → Prop) => lp (fun (X4 : Int → Prop) (s4 : Int) => (((decide (s4 < ((a0.length : Int)))) = true → ∃ v7, ix a0 s4 v7 ∧ ∃ v8, Ja v7 v8 ∧ ((((v8 != 0)) = true → Q v8) ∧ (((v8 != 0)) = false → X4 ((IntKind.i64.wrap (s4 + 1)))))) ∧ ((decide (s4 < ((a0.length : Int)))) = false → J3 (())))) 0)))
def V1 (a0 : (List Qh)) (r : Int) : Prop := YO a0 fun x => r = x
theorem D8 {a0 : (List Qh)} {r : Int} (h : V1 a0 r) : Qq Tryz.prog 71 [.c (.l 2 (List.map QJ a0))] [.c (.p (.v (.int .i64 r)))] [] := by
  refine Qn tb Tryz.func71 Z (by kernel_rfl) Z Z (Nat.le_of_ble_eq_true Z) Z ?_;intro E;unfold V1 YO at h;refine Z3 (fun Q hQ => ?_);refine tD Z ?_;refine sk fun L1 hL1 => ?_;refine tk fun L hL => ?_;refine dN 1 Z ?_;refine u0 QA ?_;obtain ⟨v2, hv2, h⟩ := h;refine u0 (QQ (ZI hv2)) ?_;refine dN 1 Z ?_;refine rt (hL _ ?_);refine tD Z ?_;refine cn h (fun h => ?_) fun h => ?_
  · refine tD Z ?_;obtain rfl := h;exact Qf (hQ _ _ (Zt Z Z))
  · refine Qi (hL1 _ ?_);refine Z5 (fun (p3 : Unit) => (⟨[], []⟩ : St)) h (fun p3 h => ?_) (fun J3 L3 hL3 h => ?_)
    · refine tD Z ?_;obtain rfl := h;exact Qf (hQ _ _ (Zt Z Z))
    · refine tk fun L hL => ?_;refine dN 1 Z ?_;refine u0 QA ?_;refine dN 1 Z ?_;refine rt (hL _ ?_);refine Qt ?_;refine Zs (fun (s4 : Int) => (⟨[(13, .c (.p (.l 2 (List.map QJ a0)))), (14, .c (.p (.v (.int .i64 ((a0.length : Int)))))), (15, .c (.p (.v (.int .i64 s4))))], []⟩ : St)) h QB.fit (fun X4 L4 hL4 s4 h => ?_);refine tD Z ?_;refine sk fun L5 hL5 => ?_;refine cn h (fun h => ?_) fun h => ?_
      · refine Qi (hL5 _ ?_);refine sk fun L6 hL6 => ?_;refine Qt ?_;refine tk fun L hL => ?_;obtain ⟨v7, hv7, h⟩ := h;refine u0 (QC hv7) ?_;refine dN 3 Z ?_;refine rt (hL _ ?_);refine tk fun L hL => ?_;refine dN 1 Z ?_;obtain ⟨v8, hv8, h⟩ := h;refine u0 (QQ (B2 hv8)) ?_;refine dN 1 Z ?_;refine rt (hL _ ?_);refine tD Z ?_;refine cn h (fun h => ?_) fun h => ?_
        · refine tD Z ?_;obtain rfl := h;exact Qf (hQ _ _ (Zt Z Z))
        · refine Qi (hL6 _ ?_);refine tE Z (hL4 _ _ h QB.fit)
      · refine QT (hL3 _ _ h QB.fit)
def YP (a0 : (List Int)) (a1 : Int) (Q : Int → Prop) : Prop :=
 (((decide (((a0.length : Int)) > a1)) = true → Q 11) ∧ ((decide (((a0.length : Int)) > a1)) = false → Q 0))
def Jg (a0 : (List Int)) (a1 : Int) (r : Int) : Prop := YP a0 a1 fun x => r = x
theorem Uj {a0 : (List Int)} {a1 : Int} {r : Int} (h : Jg a0 a1 r) : Qq Tryz.prog 72 [.c (.l 1 (List.map (eI .u8) a0)), .c (.v (.int .i64 a1))] [.c (.p (.v (.int .i64 r)))] [] := by
  refine Qn tb Tryz.func72 Z (by kernel_rfl) Z Z (Nat.le_of_ble_eq_true Z) Z ?_;intro E;unfold Jg YP at h;refine Z3 (fun Q hQ => ?_);refine tD Z ?_;refine sk fun L1 hL1 => ?_;refine tk fun L hL => ?_;refine dN 1 Z ?_;refine u0 QA ?_;refine dN 2 Z ?_;refine rt (hL _ ?_);refine cn h (fun h => ?_) fun h => ?_
  · refine tD Z ?_;obtain rfl := h;exact Qf (hQ _ _ (Zt Z Z))
  · refine Qi (hL1 _ ?_);refine tD Z ?_;obtain rfl := h;exact Qf (hQ _ _ (Zt Z Z))
def Wd (a0 : Qu) (Q : Int → Prop) : Prop :=
 ((((bif decide (a0.fk < 1) then true else decide (a0.fk > 7))) = true → Q 8) ∧ (((bif decide (a0.fk < 1) then true else decide (a0.fk > 7))) = false → ∃ (v3 : Bool), (((bif (a0.fk == 2) then true else (a0.fk == 6))) = true → Xc a0.fa4 v3) ∧ ((((bif (bif (a0.fk == 2) then true else (a0.fk == 6)) then !(v3) else false)) = true → Q 7) ∧ (((bif (bif (a0.fk == 2) then true else (a0.fk == 6)) then !(v3) else false)) = false → ((((bif (a0.fk == 5) then (bif decide (a0.fv < 0) then true else decide (a0.fv > 32)) else false)) = true → Q 5) ∧ (((bif (a0.fk == 5) then (bif decide (a0.fv < 0) then true else decide (a0.fv > 32)) else false)) = false → ((((bif (a0.fk == 7) then (bif (bif (bif decide (a0.fb8 < 1) then true else decide (a0.fb8 > 1000000)) then true else decide (a0.fb9 < 0)) then true else decide (a0.fb9 > a0.fb8)) else false)) = true → Q 5) ∧ (((bif (a0.fk == 7) then (bif (bif (bif decide (a0.fb8 < 1) then true else decide (a0.fb8 > 1000000)) then true else decide (a0.fb9 < 0)) then true else decide (a0.fb9 > a0.fb8)) else false)) = false → ((((bif (bif (bif !((bif (a0.fk == 2) then true else (a0.fk == 6))) then (!(a0.fa4.toList == ((⟨#[]⟩ : ByteArray)).toList)) else false) then true else (bif !((a0.fk == 5)) then (a0.fv != 0) else false)) then true else (bif !((a0.fk == 7)) then (bif (a0.fb9 != 0) then true else (a0.fb8 != 0)) else false))) = true → Q 18) ∧ (((bif (bif (bif !((bif (a0.fk == 2) then true else (a0.fk == 6))) then (!(a0.fa4.toList == ((⟨#[]⟩ : ByteArray)).toList)) else false) then true else (bif !((a0.fk == 5)) then (a0.fv != 0) else false)) then true else (bif !((a0.fk == 7)) then (bif (a0.fb9 != 0) then true else (a0.fb8 != 0)) else false))) = false → Q 0))))))))))
def Vn (a0 : Qu) (r : Int) : Prop := Wd a0 fun x => r = x
theorem DR {a0 : Qu} {r : Int} (h : Vn a0 r) : Qq Tryz.prog 74 [.agg (Wr a0)] [.c (.p (.v (.int .i64 r)))] [] := by
  refine Qn tb Tryz.func74 Z (by kernel_rfl) Z Z (Nat.le_of_ble_eq_true Z) Z ?_;intro E;unfold Vn Wd at h;refine Z3 (fun Q hQ => ?_);refine tD Z ?_;refine sk fun L1 hL1 => ?_;refine tk fun L hL => ?_;refine dN 4 Z ?_;refine Q2 Z Z Q4 (fun hg => Q7 Z Z Z Z Z Z Z Z Z) ?_;refine Q2 Z Z Q4 (fun hg => Q3 (Qb hg) Z Z Z Z Z) ?_;refine Q2 Z Z Q4 (fun hg => Qz (c := decide (a0.fk > 7)) (Qb hg) Z Z Z Z) ?_;refine u0 (Qm (v := .bool true) (w := .bool (decide (a0.fk > 7))) Z Z Q4 Z Qw) ?_;refine rt (hL _ ?_);refine cn h (fun h => ?_) fun h => ?_
  · refine tD Z ?_;obtain rfl := h;exact Qf (hQ _ _ (Zt Z Z))
  · refine Qi (hL1 _ ?_);refine QS (st' := ⟨[(1, .c (.ptr (1, 0) 0 0))], [((1, 0), some (.box (List.map CV.p (Wr a0))))]⟩) QB.fit ?_;refine tk fun L hL => ?_;refine dN 4 Z ?_;refine Q2 Z Z Q4 (fun hg => Q7 Z Z Z Z Z Z Z Z Z) ?_;refine Q2 Z Z Q4 (fun hg => Q3 (Qb hg) Z Z Z Z Z) ?_;refine Q2 Z Z Q4 (fun hg => Qz (c := (a0.fk == 6)) (Qb hg) Z Z Z Z) ?_;refine u0 (Qm (v := .bool true) (w := .bool ((a0.fk == 6))) Z Z Q4 Z Qw) ?_;refine dN 1 Z ?_;refine rt (hL _ ?_);refine dk mixed (fun L hL => ?_);refine dN 8 Z ?_;refine rd (hL _ ?_);refine sk fun L2 hL2 => ?_;refine Qt ?_;refine tk fun L hL => ?_;refine dN 2 Z ?_;refine Q2 Z Z Q6 (fun hg => Q7 Z Z Z Z Z Z Z Z Z) ?_;refine Q2 Z Z Q6 (fun hg => Q3 (Qb hg) Z Z Z Z Z) ?_;obtain ⟨v3, hv3, h⟩ := h;refine Q2 Z Z Q6 (fun hg => QN (BM (hv3 hg)) Z Z (.cons (Zh hg (.c (.p _))) .nil) Z Z Z) ?_;refine Q2 Z Z Q6 (fun hg => Z4 (Qb hg) Z Z) ?_;refine u0 (Ql (v := .bool (!(v3))) (w := .bool false) Z Z Q6 Z Qw) ?_;refine dN 1 Z ?_;refine rt (hL _ ?_);refine cn h (fun h => ?_) fun h => ?_
    · refine tD Z ?_;obtain rfl := h;exact Qf (hQ _ _ (Zt Z Z))
    · refine tk fun L hL => ?_;refine dN 2 Z ?_;refine Q2 Z Z Q6 (fun hg => Q7 Z Z Z Z Z Z Z Z Z) ?_;refine Q2 Z Z Q6 (fun hg => Q3 (Qb hg) Z Z Z Z Z) ?_;refine Q2 Z Z Q6 (fun hg => Qz (c := decide (a0.fv < 0)) (Qb hg) Z Z Z Z) ?_;refine Q2 Z Z Q6 (fun hg => Qd (Qb hg) Z) ?_;refine QE Z Z K1 (fun hg => Q7 Z Z Z Z Z Z Z Z Z) ?_;refine QE Z Z K1 (fun hg => Q3 (Qb hg) Z Z Z Z Z) ?_;refine QE Z Z K1 (fun hg => Qz (c := decide (a0.fv > 32)) (Qb hg) Z Z Z Z) ?_;refine Q2 Z Z Q6 (fun hg => Qm (v := .bool true) (w := .bool (decide (a0.fv > 32))) (Qb hg) Z (US hg) Z Qw Z Z Z) ?_;refine u0 (Ql (v := .bool ((bif decide (a0.fv < 0) then true else decide (a0.fv > 32)))) (w := .bool false) Z Z Q6 Z Qw) ?_;refine dN 1 Z ?_;refine rt (hL _ ?_);refine cn h (fun h => ?_) fun h => ?_
      · refine tD Z ?_;obtain rfl := h;exact Qf (hQ _ _ (Zt Z Z))
      · refine tk fun L hL => ?_;refine dN 2 Z ?_;refine Q2 Z Z Q6 (fun hg => Q7 Z Z Z Z Z Z Z Z Z) ?_;refine Q2 Z Z Q6 (fun hg => Q3 (Qb hg) Z Z Z Z Z) ?_;refine Q2 Z Z Q6 (fun hg => Qz (c := decide (a0.fb8 < 1)) (Qb hg) Z Z Z Z) ?_;refine Q2 Z Z Q6 (fun hg => Qd (Qb hg) Z) ?_;refine QE Z Z K1 (fun hg => Q7 Z Z Z Z Z Z Z Z Z) ?_;refine QE Z Z K1 (fun hg => Q3 (Qb hg) Z Z Z Z Z) ?_;refine QE Z Z K1 (fun hg => Qz (c := decide (a0.fb8 > 1000000)) (Qb hg) Z Z Z Z) ?_;refine Q2 Z Z Q6 (fun hg => Qm (v := .bool true) (w := .bool (decide (a0.fb8 > 1000000))) (Qb hg) Z (US hg) Z Qw Z Z Z) ?_;refine Q2 Z Z Q6 (fun hg => Qd (Qb hg) Z) ?_;refine QE Z Z K1 (fun hg => Q7 Z Z Z Z Z Z Z Z Z) ?_;refine QE Z Z K1 (fun hg => Q3 (Qb hg) Z Z Z Z Z) ?_;refine QE Z Z K1 (fun hg => Qz (c := decide (a0.fb9 < 0)) (Qb hg) Z Z Z Z) ?_;refine Q2 Z Z Q6 (fun hg => Qm (v := .bool true) (w := .bool (decide (a0.fb9 < 0))) (Qb hg) Z (US hg) Z Qw Z Z Z) ?_;refine Q2 Z Z Q6 (fun hg => Qd (Qb hg) Z) ?_
        refine QE Z Z K1 (fun hg => Q7 Z Z Z Z Z Z Z Z Z) ?_;refine QE Z Z K1 (fun hg => Q3 (Qb hg) Z Z Z Z Z) ?_;refine QE Z Z K1 (fun hg => Q7 Z Z Z Z Z Z Z Z Z) ?_;refine QE Z Z K1 (fun hg => Q3 (Qb hg) Z Z Z Z Z) ?_;refine QE Z Z K1 (fun hg => Qz (c := decide (a0.fb9 > a0.fb8)) (Qb hg) (Qb hg) Z Z Z) ?_;refine Q2 Z Z Q6 (fun hg => Qm (v := .bool true) (w := .bool (decide (a0.fb9 > a0.fb8))) (Qb hg) Z (US hg) Z Qw Z Z Z) ?_;refine u0 (Ql (v := .bool ((bif (bif (bif decide (a0.fb8 < 1) then true else decide (a0.fb8 > 1000000)) then true else decide (a0.fb9 < 0)) then true else decide (a0.fb9 > a0.fb8)))) (w := .bool false) Z Z Q6 Z Qw) ?_;refine dN 1 Z ?_;refine rt (hL _ ?_);refine QS (st' := ⟨[(1, .c (.ptr (1, 0) 0 0)), (3, .c (.p (.v (.bool ((bif (a0.fk == 2) then true else (a0.fk == 6))))))), (4, .c (.p (.v (.bool ((a0.fk == 5)))))), (5, .c (.p (.v (.bool ((a0.fk == 7)))))), (48, .c (.p (.v (.bool ((bif (a0.fk == 7) then (bif (bif (bif decide (a0.fb8 < 1) then true else decide (a0.fb8 > 1000000)) then true else decide (a0.fb9 < 0)) then true else decide (a0.fb9 > a0.fb8)) else false))))))], [((1, 0), some (.box (List.map CV.p (Wr a0))))]⟩) QB.fit ?_
        refine cn h (fun h => ?_) fun h => ?_
        · refine tD Z ?_;obtain rfl := h;exact Qf (hQ _ _ (Zt Z Z))
        · refine tk fun L hL => ?_;refine dN 3 Z ?_;refine Q2 Z Z Q6 (fun hg => Q7 Z Z Z Z Z Z Z Z Z) ?_;refine Q2 Z Z Q6 (fun hg => Q3 (Qb hg) Z Z Z Z Z) ?_;refine Q2 Z Z Q6 (fun hg => Vy (c := (!(a0.fa4.toList == ((⟨#[]⟩ : ByteArray)).toList))) (Qb hg) Z Z Z Z) ?_;refine u0 (Ql (v := .bool ((!(a0.fa4.toList == ((⟨#[]⟩ : ByteArray)).toList)))) (w := .bool false) Z Z Q6 Z Qw) ?_;refine dN 1 Z ?_;refine Q2 Z Z Q4 (fun hg => Qd Z Z) ?_;refine Q2 Z Z Q4 (fun hg => Z4 (Qb hg) Z Z) ?_;refine Q2 Z Z Q4 (fun hg => Qd (Qb hg) Z) ?_;refine QE Z Z QO (fun hg => Q7 Z Z Z Z Z Z Z Z Z) ?_;refine QE Z Z QO (fun hg => Q3 (Qb hg) Z Z Z Z Z) ?_;refine QE Z Z QO (fun hg => Qz (c := (a0.fv != 0)) (Qb hg) Z Z Z Z) ?_;refine Q2 Z Z Q4 (fun hg => Ql (v := .bool ((a0.fv != 0))) (w := .bool false) (Qb hg) Z (JC hg) Z Qw Z Z Z) ?_;refine u0 (Qm (v := .bool true) (w := .bool ((bif !((a0.fk == 5)) then (a0.fv != 0) else false))) Z Z Q4 Z Qw) ?_;refine dN 1 Z ?_;refine Q2 Z Z Q4 (fun hg => Qd Z Z) ?_
          refine Q2 Z Z Q4 (fun hg => Z4 (Qb hg) Z Z) ?_;refine Q2 Z Z Q4 (fun hg => Qd (Qb hg) Z) ?_;refine QE Z Z QO (fun hg => Q7 Z Z Z Z Z Z Z Z Z) ?_;refine QE Z Z QO (fun hg => Q3 (Qb hg) Z Z Z Z Z) ?_;refine QE Z Z QO (fun hg => Qz (c := (a0.fb9 != 0)) (Qb hg) Z Z Z Z) ?_;refine QE Z Z QO (fun hg => Qd (Qb hg) Z) ?_;refine QE Z Z K1 (fun hg => Q7 Z Z Z Z Z Z Z Z Z) ?_;refine QE Z Z K1 (fun hg => Q3 (Qb hg) Z Z Z Z Z) ?_;refine QE Z Z K1 (fun hg => Qz (c := (a0.fb8 != 0)) (Qb hg) Z Z Z Z) ?_;refine QE Z Z QO (fun hg => Qm (v := .bool true) (w := .bool ((a0.fb8 != 0))) (Qb hg) Z (US hg) Z Qw Z Z Z) ?_;refine Q2 Z Z Q4 (fun hg => Ql (v := .bool ((bif (a0.fb9 != 0) then true else (a0.fb8 != 0)))) (w := .bool false) (Qb hg) Z (JC hg) Z Qw Z Z Z) ?_;refine u0 (Qm (v := .bool true) (w := .bool ((bif !((a0.fk == 7)) then (bif (a0.fb9 != 0) then true else (a0.fb8 != 0)) else false))) Z Z Q4 Z Qw) ?_;refine dN 1 Z ?_;refine rt (hL _ ?_);refine cn h (fun h => ?_) fun h => ?_
          · refine tD Z ?_;obtain rfl := h;exact Qf (hQ _ _ (Zt Z Z))
          · refine Qi (hL2 _ ?_);refine QS (st' := ⟨[], []⟩) QB.fit ?_;refine tD Z ?_;obtain rfl := h;exact Qf (hQ _ _ (Zt Z Z))
def YQ (a0 : Qo) (a1 : Int) (Q : Int → Prop) : Prop :=
 ((((a1 == 0)) = true → ∃ v2, JB a0.fb4 v2 ∧ Q v2) ∧ (((a1 == 0)) = false → ((((a1 == 1)) = true → ∃ v3, JB a0.fi v3 ∧ Q v3) ∧ (((a1 == 1)) = false → ((((a1 == 2)) = true → ∃ v4, Vl a0.fa0 v4 ∧ Q v4) ∧ (((a1 == 2)) = false → ((((a1 == 3)) = true → ∃ v5, Km a0.fa v5 ∧ Q v5) ∧ (((a1 == 3)) = false → ((((a1 == 4)) = true → ∃ v6, V1 a0.f0 v6 ∧ Q v6) ∧ (((a1 == 4)) = false → ((((a1 == 5)) = true → ∃ v7, Jg a0.fb0 64 v7 ∧ Q v7) ∧ (((a1 == 5)) = false → ((((a1 == 6)) = true → ∃ v8, Za a0.f9 1 1048576 v8 ∧ Q v8) ∧ (((a1 == 6)) = false → ((((a1 == 7)) = true → ∃ v9, Za a0.fa6 1 1048576 v9 ∧ Q v9) ∧ (((a1 == 7)) = false → ((((a1 == 8)) = true → ∃ v10, Za a0.fa1 0 3 v10 ∧ Q v10) ∧ (((a1 == 8)) = false → ((((a1 == 9)) = true → ∃ v11, Za a0.fb1 0 15 v11 ∧ Q v11) ∧ (((a1 == 9)) = false → ((((a1 == 10)) = true → ∃ v12, Za a0.fa2 0 3 v12 ∧ Q v12) ∧ (((a1 == 10)) = false → ((((a1 == 11)) = true → ∃ v13, Za a0.fv 0 32 v13 ∧ Q v13) ∧ (((a1 == 11)) = false → ((((a1 == 12)) = true → ∃ v14, Vn a0.fo v14 ∧ Q v14) ∧ (((a1 == 12)) = false → ∃ v15, Jg a0.fb3 65536 v15 ∧ Q v15))))))))))))))))))))))))))
def V2 (a0 : Qo) (a1 : Int) (r : Int) : Prop := YQ a0 a1 fun x => r = x
theorem D9 {a0 : Qo} {a1 : Int} {r : Int} (h : V2 a0 a1 r) : Qq Tryz.prog 42 [.agg (Zf a0), .c (.v (.int .i64 a1))] [.c (.p (.v (.int .i64 r)))] [] := by
  refine Qn tb Tryz.func42 Z (by kernel_rfl) Z Z (Nat.le_of_ble_eq_true Z) Z ?_;intro E;unfold V2 YQ at h;refine Z3 (fun Q hQ => ?_);refine tD Z ?_;refine sk fun L1 hL1 => ?_;refine tD Z ?_;refine Qt ?_;refine tD Z ?_;refine cn h (fun h => ?_) fun h => ?_
  · refine tk fun L hL => ?_;refine dN 2 Z ?_;obtain ⟨v2, hv2, h⟩ := h;refine u0 (QQ (Wb hv2)) ?_;refine dN 1 Z ?_;refine rt (hL _ ?_);obtain rfl := h;exact Qf (hQ _ _ (Zt Z Z))
  · refine tD Z ?_;refine cn h (fun h => ?_) fun h => ?_
    · refine tk fun L hL => ?_;refine dN 2 Z ?_;obtain ⟨v3, hv3, h⟩ := h;refine u0 (QQ (Wb hv3)) ?_;refine dN 1 Z ?_;refine rt (hL _ ?_);obtain rfl := h;exact Qf (hQ _ _ (Zt Z Z))
    · refine tD Z ?_;refine cn h (fun h => ?_) fun h => ?_
      · refine tk fun L hL => ?_;refine dN 2 Z ?_;obtain ⟨v4, hv4, h⟩ := h;refine u0 (QQ (DO hv4)) ?_;refine dN 1 Z ?_;refine rt (hL _ ?_);obtain rfl := h;exact Qf (hQ _ _ (Zt Z Z))
      · refine tD Z ?_;refine cn h (fun h => ?_) fun h => ?_
        · refine tk fun L hL => ?_;refine dN 2 Z ?_;obtain ⟨v5, hv5, h⟩ := h;refine u0 (QQ (UL hv5)) ?_;refine dN 1 Z ?_;refine rt (hL _ ?_);obtain rfl := h;exact Qf (hQ _ _ (Zt Z Z))
        · refine tD Z ?_;refine cn h (fun h => ?_) fun h => ?_
          · refine tk fun L hL => ?_;refine dN 2 Z ?_;obtain ⟨v6, hv6, h⟩ := h;refine u0 (QQ (D8 hv6)) ?_;refine dN 1 Z ?_;refine rt (hL _ ?_);obtain rfl := h;exact Qf (hQ _ _ (Zt Z Z))
          · refine tD Z ?_;refine cn h (fun h => ?_) fun h => ?_
            · refine tk fun L hL => ?_;refine dN 2 Z ?_;obtain ⟨v7, hv7, h⟩ := h;refine u0 (QQ (Uj hv7)) ?_;refine dN 1 Z ?_;refine rt (hL _ ?_);obtain rfl := h;exact Qf (hQ _ _ (Zt Z Z))
            · refine tD Z ?_;refine cn h (fun h => ?_) fun h => ?_
              · refine tk fun L hL => ?_;refine dN 2 Z ?_;obtain ⟨v8, hv8, h⟩ := h;refine u0 (QQ (ZI hv8)) ?_;refine dN 1 Z ?_;refine rt (hL _ ?_);obtain rfl := h;exact Qf (hQ _ _ (Zt Z Z))
              · refine tD Z ?_;refine cn h (fun h => ?_) fun h => ?_
                · refine tk fun L hL => ?_;refine dN 2 Z ?_;obtain ⟨v9, hv9, h⟩ := h;refine u0 (QQ (ZI hv9)) ?_;refine dN 1 Z ?_;refine rt (hL _ ?_);obtain rfl := h;exact Qf (hQ _ _ (Zt Z Z))
                · refine tD Z ?_;refine cn h (fun h => ?_) fun h => ?_
                  · refine tk fun L hL => ?_;refine dN 2 Z ?_;obtain ⟨v10, hv10, h⟩ := h;refine u0 (QQ (ZI hv10)) ?_;refine dN 1 Z ?_;refine rt (hL _ ?_);obtain rfl := h;exact Qf (hQ _ _ (Zt Z Z))
                  · refine tD Z ?_;refine cn h (fun h => ?_) fun h => ?_
                    · refine tk fun L hL => ?_;refine dN 2 Z ?_;obtain ⟨v11, hv11, h⟩ := h;refine u0 (QQ (ZI hv11)) ?_;refine dN 1 Z ?_;refine rt (hL _ ?_);obtain rfl := h;exact Qf (hQ _ _ (Zt Z Z))
                    · refine tD Z ?_;refine cn h (fun h => ?_) fun h => ?_
                      · refine tk fun L hL => ?_;refine dN 2 Z ?_;obtain ⟨v12, hv12, h⟩ := h;refine u0 (QQ (ZI hv12)) ?_;refine dN 1 Z ?_;refine rt (hL _ ?_);obtain rfl := h;exact Qf (hQ _ _ (Zt Z Z))
                      · refine tD Z ?_;refine cn h (fun h => ?_) fun h => ?_
                        · refine tk fun L hL => ?_;refine dN 2 Z ?_;obtain ⟨v13, hv13, h⟩ := h;refine u0 (QQ (ZI hv13)) ?_;refine dN 1 Z ?_;refine rt (hL _ ?_);obtain rfl := h;exact Qf (hQ _ _ (Zt Z Z))
                        · refine tD Z ?_;refine cn h (fun h => ?_) fun h => ?_
                          · refine tk fun L hL => ?_;refine dN 2 Z ?_;obtain ⟨v14, hv14, h⟩ := h;refine u0 (QQ (DR hv14)) ?_;refine dN 1 Z ?_;refine rt (hL _ ?_);obtain rfl := h;exact Qf (hQ _ _ (Zt Z Z))
                          · refine Qi (hL1 _ ?_);refine tk fun L hL => ?_;refine dN 2 Z ?_;obtain ⟨v15, hv15, h⟩ := h;refine u0 (QQ (Uj hv15)) ?_;refine dN 1 Z ?_;refine rt (hL _ ?_);obtain rfl := h;exact Qf (hQ _ _ (Zt Z Z))
end Go.Proofs.YtpnpodbihdiegaaGreat

namespace Go.Proofs.YtpnpodbihdiegaaGreat
open Go.RowKit
def BN (b : Nat) (cs : Array Value) (t : TypeId) (w : World) : Prop := w.heap[b]? = some (.cells cs t (0, 0))
theorem BN.lt {b : Nat} {cs : Array Value} {t : TypeId} {w : World} (h : BN b cs t w) : b < w.heap.size := by
  unfold BN at h
  exact (Array.getElem?_eq_some_iff.mp h).1
theorem BN.cell {b : Nat} {cs : Array Value} {t : TypeId} {w : World} (h : BN b cs t w) (i : Nat) {v : Value} (hi : cs[i]? = some v) : w.cell? ⟨b, i, none⟩ = some v := by
  unfold BN at h
  simp [World.cell?, h, hi]
theorem BN.froz {b : Nat} {cs : Array Value} {t : TypeId} {w : World} (h : BN b cs t w) (i : Nat) : w.frozen? ⟨b, i, none⟩ = false := by
  unfold BN at h
  simp [World.frozen?, h]
theorem BN.keep {b : Nat} {cs : Array Value} {t : TypeId} {w w' : World} (h : BN b cs t w) (g : w.grownBy w' none) : BN b cs t w' := by
  have := g.block b h.lt (by simp)
  unfold BN at *
  rw [this]; exact h
theorem BN.new (w : World) (cs : Array Value) (t : TypeId) : BN w.heap.size cs t (w.alloc (.cells cs t)) := by
  unfold BN
  show (w.heap.push (.cells cs t))[w.heap.size]? = _
  simp
theorem BN.set {b : Nat} {cs : Array Value} {t : TypeId} {w : World} (h : BN b cs t w) (o : Nat) (v : Value) : BN b (cs.setIfInBounds o v) t (w.setCell ⟨b, o, none⟩ v) := by
  unfold BN at *
  simp [World.setCell, Array.getElem?_modify, h]
theorem BN.drew {b : Nat} {cs : Array Value} {t : TypeId} {w : World} (h : BN b cs t w) : BN b cs t w.drew := h
def Row (k : IntKind) (t : TypeId) (g : Nat) (l : List Int) (w : World) : Prop := ∃ cur : Array Value, BN g cur t w ∧ l.length ≤ cur.size ∧ ∀ i, i < l.length → cur[i]? = some (.int k (gI l i))
theorem Row.keep {k : IntKind} {t : TypeId} {g : Nat} {l : List Int} {w w' : World} (h : Row k t g l w) (hg : w.grownBy w' none) : Row k t g l w' := by
  obtain ⟨cur, h1, h2⟩ := h
  exact ⟨cur, h1.keep hg, h2⟩
theorem Row.drew {k : IntKind} {t : TypeId} {g : Nat} {l : List Int} {w : World} (h : Row k t g l w) : Row k t g l w.drew := h
theorem Row.lt {k : IntKind} {t : TypeId} {g : Nat} {l : List Int} {w : World} (h : Row k t g l w) : g < w.heap.size := by
  obtain ⟨cur, h1, h2⟩ := h
  exact h1.lt
theorem Row.cell {k : IntKind} {t : TypeId} {g : Nat} {l : List Int} {w : World} (h : Row k t g l w) {i : Nat} (hi : i < l.length) : w.cell? ⟨g, i, none⟩ = some (.int k (gI l i)) := by
  obtain ⟨cur, h1, h2, h3⟩ := h
  exact h1.cell i (h3 i hi)
theorem Row.froz {k : IntKind} {t : TypeId} {g : Nat} {l : List Int} {w : World} (h : Row k t g l w) (i : Nat) : w.frozen? ⟨g, i, none⟩ = false := by
  obtain ⟨cur, h1, _⟩ := h
  exact h1.froz i
theorem Row.set {k : IntKind} {t : TypeId} {g : Nat} {l : List Int} {w : World} (h : Row k t g l w) (i : Nat) (x : Int) : Row k t g (l.set i x) (w.setCell ⟨g, i, none⟩ (.int k x)) := by
  obtain ⟨cur, h1, h2, h3⟩ := h
  refine ⟨_, h1.set i (.int k x), by simpa using h2, fun j hj => ?_⟩
  simp only [List.length_set] at hj
  rw [Array.getElem?_setIfInBounds]
  by_cases e : i = j
  · subst e
    rw [if_pos rfl, if_pos (by omega)]
    simp [gI, List.getD_eq_getElem?_getD, List.getElem?_set, hj]
  · rw [if_neg e, h3 j hj]
    simp [gI, List.getD_eq_getElem?_getD, List.getElem?_set, e]
def Mp (p q : Nat) (w w' : World) : Prop := w'.os = w.os ∧ w'.tape = w.tape ∧ w'.output = w.output ∧ w.heap.size ≤ w'.heap.size ∧ ∀ k, k < w.heap.size → k ≠ p → k ≠ q → w'.heap[k]? = w.heap[k]?
theorem Mp.refl (p q : Nat) (w : World) : Mp p q w w := ⟨rfl, rfl, rfl, Nat.le_refl _, fun _ _ _ _ => rfl⟩
theorem Mp.size {p q : Nat} {w w' : World} (h : Mp p q w w') : w.heap.size ≤ w'.heap.size := h.2.2.2.1
theorem Mp.grown {p q : Nat} {w w1 w2 : World} (h : Mp p q w w1) (g : w1.grownBy w2 none) : Mp p q w w2 := by
  obtain ⟨h1, h2, h3, h4, h5⟩ := h
  exact ⟨g.os.trans h1, g.tape.trans h2, g.output.trans h3, Nat.le_trans h4 g.size, fun k hk hp hq => (g.block k (Nat.lt_of_lt_of_le hk h4) (by simp)).trans (h5 k hk hp hq)⟩
theorem Mp.drew {p q : Nat} {w w1 : World} (h : Mp p q w w1) : Mp p q w w1.drew := h
end Go.Proofs.YtpnpodbihdiegaaGreat
namespace Go.Proofs.YtpnpodbihdiegaaGreat
open Go.RowKit Go.ChangeShapes Go.WideShapes
def Yl (k : Int) : List Int :=
  if k = 1 then [0, 3] else if k = 2 then [0] else if k = 3 then [0, 1] else if k = 5 then [0, 12] else if k = 6 then [0, 4, 5] else if k = 7 then [0, 1, 5] else if k = 8 then [0, 1, 5, 6, 7]
  else if k = 9 then [2] else if k = 10 then [8, 9, 12] else if k = 11 then [8] else if k = 12 ∨ k = 15 then [8, 9] else if k = 13 then [10, 11] else if k = 14 then [10] else if k = 16 then [0, 13] else []
def Kn (k : Int) : Prop := 1 ≤ k ∧ k ≤ 17
instance (k : Int) : Decidable (Kn k) := by unfold Kn; infer_instance
theorem Hh {k : Int} (h : Kn k) : k = 1 ∨ k = 2 ∨ k = 3 ∨ k = 4 ∨ k = 5 ∨ k = 6 ∨ k = 7 ∨ k = 8 ∨ k = 9 ∨ k = 10 ∨ k = 11 ∨ k = 12 ∨ k = 13 ∨ k = 14 ∨ k = 15 ∨ k = 16 ∨ k = 17 := by
  obtain ⟨h1, h2⟩ := h; omega
theorem Oy {k : Int} (h : ¬ Kn k) : (k == 1) = false ∧ (k == 2) = false ∧ (k == 3) = false ∧ (k == 4) = false ∧ (k == 5) = false ∧ (k == 6) = false ∧ (k == 7) = false ∧ (k == 8) = false ∧ (k == 9) = false ∧ (k == 10) = false ∧ (k == 11) = false ∧ (k == 12) = false ∧ (k == 13) = false ∧ (k == 14) = false ∧ (k == 15) = false ∧ (k == 16) = false ∧ (k == 17) = false := by
  unfold Kn at h
  refine ⟨?_, ?_, ?_, ?_, ?_, ?_, ?_, ?_, ?_, ?_, ?_, ?_, ?_, ?_, ?_, ?_, ?_⟩ <;> exact beq_eq_false_iff_ne.2 (by omega)
theorem Ng {P : Program} {T e : TypeId} (hT : P.underlying T = some (.slice e)) (d : Nat) (a : Addr) (n c : Nat) (w : World) : Sem.run P (Op.equalIn (d + 1) T (.slice (some a) n c) (.slice none 0 0)) w = .ok false w := by
  simp [Op.equalIn, run_underlying hT]
theorem Oz {P : Program} {T e : TypeId} (hT : P.underlying T = some (.slice e)) (a : Addr) (n c : Nat) (w : World) : Sem.run P (binOp .eql T (.slice (some a) n c) (.slice none 0 0)) w = .ok (.bool false) w := by
  have h := Ng hT 9999 a n c w
  show Sem.run P (do let b ← Op.equalIn (9999 + 1) T (.slice (some a) n c) (.slice none 0 0); pure (Value.bool b) : Sem Value) w = _
  generalize Op.equalIn (9999 + 1) T (.slice (some a) n c) (.slice none 0 0) = q at *
  simp [h]
theorem Mq {P : Program} {T e : TypeId} (hT : P.underlying T = some (.slice e)) (d : Nat) (w : World) : Sem.run P (Op.equalIn (d + 1) T (.slice none 0 0) (.slice none 0 0)) w = .ok true w := by
  simp [Op.equalIn, run_underlying hT]
theorem Nh {P : Program} {T e : TypeId} (hT : P.underlying T = some (.slice e)) (w : World) : Sem.run P (binOp .eql T (.slice none 0 0) (.slice none 0 0)) w = .ok (.bool true) w := by
  have h := Mq hT 9999 w
  show Sem.run P (do let b ← Op.equalIn (9999 + 1) T (.slice none 0 0) (.slice none 0 0); pure (Value.bool b) : Sem Value) w = _
  generalize Op.equalIn (9999 + 1) T (.slice none 0 0) (.slice none 0 0) = q at *
  simp [h]
theorem Ni (w : World) (e : TypeId) (l : List Int) (cs : Array Value) (n : Nat) (h : cs.toList = l.map (.int .i64)) (hl : l.length = n) (hn : n ≤ 100) : (w.alloc (.cells cs e)).ownsRow w.heap.size e 1 (.slice (some ⟨w.heap.size, 0, none⟩) n n) n (l.map (.int .i64)) := by
  have hs : cs.size = n * 1 := by rw [← Array.length_toList, h, List.length_map, hl, Nat.mul_one]
  have := World.ownsRow_lit (e := e) w cs n (Nat.le_refl _) (by unfold maxLen; omega) (by omega)
  rw [h] at this
  exact this
set_option maxRecDepth 100000 in
set_option maxHeartbeats 1600000 in
theorem Nj (k : Int) (w : World) (hk : Kn k) :
    Calls Tryz.prog 41 #[.int .i64 k] w fun e w' => ∃ a, e = .returned (.slice (some a) (Yl k).length (Yl k).length) ∧ Ints .i64 w' (.slice (some a) (Yl k).length (Yl k).length) (Yl k) ∧ w.grownBy w' none := by
  rcases Hh hk with rfl | rfl | rfl | rfl | rfl | rfl | rfl | rfl | rfl | rfl | rfl | rfl | rfl | rfl | rfl | rfl | rfl
  all_goals
    go_enter Tryz.func41, Tryz.ntmps41
    go_wp2
    go_ret
    exact ⟨_, rfl, HD (Ni w _ _ _ _ rfl rfl (by decide)) (by decide), Wk _ _⟩
set_option maxRecDepth 100000 in
theorem OA (k : Int) (w : World) (hk : ¬ Kn k) :
    Calls Tryz.prog 41 #[.int .i64 k] w fun e w' => e = .returned (.slice none 0 0) ∧ w = w' := by
  obtain ⟨k1, k2, k3, k4, k5, k6, k7, k8, k9, k10, k11, k12, k13, k14, k15, k16, k17⟩ := Oy hk
  clear hk
  go_enter Tryz.func41, Tryz.ntmps41
  go_wp2
  go_ret
  exact ⟨rfl, rfl⟩
end Go.Proofs.YtpnpodbihdiegaaGreat
namespace Go.Proofs.YtpnpodbihdiegaaGreat
open Go.RowKit Go.ChangeShapes Go.WideShapes
structure OpD where
  kind : Int
  name : ByteArray
  other : ByteArray
  names : List ByteArray
  pk : Int
  ps : Int
  pd : Int
  pz : Int
  items : List (ByteArray × Int)
  coins : List Int
  ex : Int
  so : Int
  ha : Int
  ix : Int
  cu : Int
  co : Int
  qk : Int
  qs : ByteArray
  qc : Int
  qn : Int
  qd : Int
  data : List Int
def opV (o : OpD) (vn vi vc vd : Value) : Value :=
  .agg #[.int .i64 o.kind, .string o.name, .string o.other, vn, .int .i64 o.pk, .int .i64 o.ps, .int .i64 o.pd, .int .u64 o.pz, vi, vc, .int .i64 o.ex, .int .i64 o.so, .int .i64 o.ha, .int .i64 o.ix, .int .i64 o.cu, .int .i64 o.co, .int .i64 o.qk, .string o.qs, .int .i64 o.qc, .int .i64 o.qn, .int .i64 o.qd, vd]
def Sl (v : Value) (n : Nat) : Prop := ∃ a cap, v = .slice a n cap
def CF (o : OpD) (f : Nat) : Bool :=
  match f with
  | 0 => o.name.toList == []
  | 1 => o.other.toList == []
  | 2 => decide (o.names.length = 0)
  | 3 => decide (o.pk = 0 ∧ o.ps = 0 ∧ o.pd = 0 ∧ o.pz = 0)
  | 4 => decide (o.items.length = 0)
  | 5 => decide (o.coins.length = 0)
  | 6 => decide (o.ex = 0)
  | 7 => decide (o.so = 0)
  | 8 => decide (o.ha = 0)
  | 9 => decide (o.ix = 0)
  | 10 => decide (o.cu = 0)
  | 11 => decide (o.co = 0)
  | 12 => decide (o.qk = 0 ∧ o.qs.toList = [] ∧ o.qc = 0 ∧ o.qn = 0 ∧ o.qd = 0)
  | _ => decide (o.data.length = 0)
theorem len0 (n : Nat) : ((n : Int) == 0) = decide (n = 0) := by
  by_cases h : n = 0
  · subst h; rfl
  · rw [decide_eq_false h]; exact beq_eq_false_iff_ne.2 (by omega)
theorem YR {f : Nat} (h : f < 14) : f = 0 ∨ f = 1 ∨ f = 2 ∨ f = 3 ∨ f = 4 ∨ f = 5 ∨ f = 6 ∨ f = 7 ∨ f = 8 ∨ f = 9 ∨ f = 10 ∨ f = 11 ∨ f = 12 ∨ f = 13 := by omega
set_option maxRecDepth 100000 in
set_option maxHeartbeats 1600000 in
theorem Nk (o : OpD) (f : Nat) (vn vi vc vd : Value) (w : World) (hf : f < 14) (h1 : Sl vn o.names.length) (h2 : Sl vi o.items.length) (h3 : Sl vc o.coins.length) (h4 : Sl vd o.data.length) :
    Calls Tryz.prog 43 #[opV o vn vi vc vd, .int .i64 f] w fun e w' => e = .returned (.bool (CF o f)) ∧ w.grownBy w' none := by
  obtain ⟨an, cn, rfl⟩ := h1
  obtain ⟨ai, ci, rfl⟩ := h2
  obtain ⟨ac, cc, rfl⟩ := h3
  obtain ⟨ad, cd, rfl⟩ := h4
  unfold opV
  obtain ⟨kind, name, other, names, pk, ps, pd, pz, items, coins, ex, so, ha, ix, cu, co, qk, qs, qc, qn, qd, data⟩ := o
  simp only
  rcases YR hf with rfl | rfl | rfl | rfl | rfl | rfl | rfl | rfl | rfl | rfl | rfl | rfl | rfl | rfl
  all_goals
    go_enter Tryz.func43, Tryz.ntmps43
    go_wp2
    all_goals
      go_ret
      refine ⟨ret_b ?_, Wk _ _⟩
      first | rfl | exact len0 _ | (simp [CF]; done) | (simp_all [CF]; done) | (simp [CF]; omega) | (simp_all [CF]; omega)
def Nl (B : Nat) (v : Value) : Prop := ∀ a n c, v = .slice (some a) n c → B ≤ a.block
theorem Ints.set {k : IntKind} {w : World} {b off n c : Nat} {l : List Int} (h : Ints k w (.slice (some ⟨b, off, none⟩) n c) l) {b' o : Nat} (u : Value) (hne : b ≠ b') : Ints k (w.setCell ⟨b', o, none⟩ u) (.slice (some ⟨b, off, none⟩) n c) l := by
  obtain ⟨a, cap, he, h1, h2, h3, h4⟩ := h
  refine ⟨a, cap, he, h1, h2, h3, ?_⟩
  rcases h4 with h4 | ⟨b2, off2, hb2, hlt, hc⟩
  · exact .inl h4
  · refine .inr ⟨b2, off2, hb2, by simpa using hlt, fun i hi => ?_⟩
    cases he
    cases hb2
    have := hc i hi
    simp [go_sem, hne]
    simpa using this
theorem Nl.mono {B B' : Nat} {v : Value} (h : Nl B v) (hb : B' ≤ B) : Nl B' v := fun a n c e => Nat.le_trans hb (h a n c e)
theorem Ints.at {k : IntKind} {w : World} {a : Option Addr} {n cap : Nat} {l : List Int} (h : Ints k w (.slice a n cap) l) (hl : 0 < l.length) : ∃ b off, a = some ⟨b, off, none⟩ ∧ b < w.heap.size ∧ ∀ i, i < l.length → w.cell? ⟨b, off + i, none⟩ = some (.int k (gI l i)) := by
  obtain ⟨a', cap', e, h1, h2, h3, h4⟩ := h
  injection e with e1 e2 e3
  subst e1
  rcases h4 with rfl | h4
  · simp at hl
  · exact h4
theorem Mp.own {p q : Nat} {w w1 w2 w3 : World} {r : Option Nat} (h : Mp p q w w1) (g : w1.grownBy w2 none) (g' : w2.grownBy w3 r) (hr : ∀ k, r = some k → w.heap.size ≤ k) : Mp p q w w3 := by
  obtain ⟨h1, h2, h3, h4, h5⟩ := h.grown g
  exact ⟨g'.os.trans h1, g'.tape.trans h2, g'.output.trans h3, Nat.le_trans h4 g'.size, fun k hk hp hq => (g'.block k (Nat.lt_of_lt_of_le hk h4) (fun e => by have := hr k e.symm; omega)).trans (h5 k hk hp hq)⟩
theorem BN.own {b : Nat} {cs : Array Value} {t : TypeId} {w w' : World} {r : Option Nat} (h : BN b cs t w) (g : w.grownBy w' r) (hne : r ≠ some b) : BN b cs t w' := by
  have := g.block b h.lt (fun e => hne e.symm)
  unfold BN at *
  rw [this]; exact h
end Go.Proofs.YtpnpodbihdiegaaGreat
namespace Go.Proofs.YtpnpodbihdiegaaGreat
open Go.RowKit Go.ChangeShapes Go.WideShapes
def ZW (k : Int) (f : Nat) : Bool := (Yl k).contains (f : Int)
def UP : List Int → Int
  | [] => 0
  | e :: r => if e ≠ 0 then e else UP r
def A9 (k : Int) (C : Nat → Int) : List Int := (List.range 14).map fun f => if ZW k f = true then C f else 0
def G8 (o : OpD) (C : Nat → Int) : Int :=
  if ¬ Kn o.kind then 8 else if UP (A9 o.kind C) ≠ 0 then UP (A9 o.kind C) else if (List.range 14).all (fun f => ZW o.kind f || CF o f) = true then 0 else 18
theorem LP {k : Int} (hk : ¬ Kn k) : Yl k = [] := by
  unfold Kn at hk
  unfold Yl
  repeat rw [if_neg (by omega)]
theorem Nn (k : Int) : (Yl k).all (fun x => decide (0 ≤ x ∧ x ≤ 13)) = true := by
  by_cases hk : Kn k
  · rcases Hh hk with rfl | rfl | rfl | rfl | rfl | rfl | rfl | rfl | rfl | rfl | rfl | rfl | rfl | rfl | rfl | rfl | rfl <;> decide
  · rw [LP hk]; rfl
theorem OB {k : Int} {x : Int} (h : x ∈ Yl k) : 0 ≤ x ∧ x ≤ 13 := of_decide_eq_true (List.all_eq_true.1 (Nn k) x h)
theorem No (k : Int) : (Yl k).length ≤ 5 := by
  by_cases hk : Kn k
  · rcases Hh hk with rfl | rfl | rfl | rfl | rfl | rfl | rfl | rfl | rfl | rfl | rfl | rfl | rfl | rfl | rfl | rfl | rfl <;> decide
  · rw [LP hk]; simp
theorem Iq {L : List Int} (h : ∀ i, i < L.length → gI L i = 0) : UP L = 0 := by
  induction L with
  | nil => rfl
  | cons e r ih =>
    have h0 := h 0 (by simp)
    have h1 : e = 0 := h0
    unfold UP
    rw [if_neg (by simp [h1])]
    exact ih fun i hi => h (i + 1) (by simp; omega)
theorem PO {L : List Int} {k : Nat} (hk : k < L.length) (h : ∀ i, i < k → gI L i = 0) (hn : gI L k ≠ 0) : UP L = gI L k := by
  induction L generalizing k with
  | nil => simp at hk
  | cons e r ih =>
    unfold UP
    cases k with
    | zero => have h1 : e ≠ 0 := hn; rw [if_pos h1]; rfl
    | succ k =>
      have h1 : e = 0 := h 0 (by omega)
      rw [if_neg (by simp [h1])]
      exact ih (by simpa using hk) (fun i hi => h (i + 1) (by omega)) hn
theorem Fq (k : Int) (C : Nat → Int) : (A9 k C).length = 14 := by simp [A9]
theorem LQ (k : Int) (C : Nat → Int) {f : Nat} (h : f < 14) : gI (A9 k C) f = if ZW k f = true then C f else 0 := by
  rw [CH (by rw [Fq]; exact h)]; simp [A9]
def LR (b : Nat) (S : List Int) (w : World) : Prop := ∃ cs : Array Value, BN b cs 100 w ∧ cs.size = 14 ∧ ∀ f, f < 14 → cs[f]? = some (.bool (S.contains (f : Int)))
theorem LR.keep {b : Nat} {S : List Int} {w w' : World} (h : LR b S w) (g : w.grownBy w' none) : LR b S w' := by
  obtain ⟨cs, h1, h2⟩ := h
  exact ⟨cs, h1.keep g, h2⟩
theorem LR.cell {b : Nat} {S : List Int} {w : World} (h : LR b S w) {f : Nat} (hf : f < 14) : w.cell? ⟨b, f, none⟩ = some (.bool (S.contains (f : Int))) := by
  obtain ⟨cs, h1, h2, h3⟩ := h
  exact h1.cell f (h3 f hf)
theorem LR.froz {b : Nat} {S : List Int} {w : World} (h : LR b S w) (f : Nat) : w.frozen? ⟨b, f, none⟩ = false := by
  obtain ⟨cs, h1, _⟩ := h
  exact h1.froz f
theorem LR.set {b : Nat} {S : List Int} {w : World} (h : LR b S w) {x : Nat} (hx : x < 14) : LR b (S ++ [(x : Int)]) (w.setCell ⟨b, x, none⟩ (.bool true)) := by
  obtain ⟨cs, h1, h2, h3⟩ := h
  refine ⟨_, h1.set x (.bool true), by simpa using h2, fun f hf => ?_⟩
  rw [Array.getElem?_setIfInBounds]
  by_cases e : x = f
  · subst e
    rw [if_pos rfl, if_pos (by omega)]
    simp
  · rw [if_neg e, h3 f hf]
    have : (S ++ [(x : Int)]).contains (f : Int) = S.contains (f : Int) := by
      simp only [List.contains_eq_mem, List.mem_append, List.mem_singleton]
      congr 1
      rw [eq_iff_iff]
      constructor
      · rintro (h | h)
        · exact h
        · omega
      · exact .inl
    rw [this]
theorem LR.new (w : World) (cs : Array Value) (h : cs = (Array.replicate 14 (Value.bool false))) : LR w.heap.size [] (w.alloc (.cells cs 100)) := by
  subst h
  refine ⟨_, BN.new _ _ _, rfl, fun f hf => ?_⟩
  rw [Array.getElem?_replicate, if_pos hf]; simp
theorem U4 {P : Program} {ops : Array Oper} {rest : List Oper} {o : Oper} {a : Act} {w : World} {Q : Exit → Act → World → Prop} (hw : Region.wanted o (yielded ops a.tmps) = true) (ty : TypeId) (x : Operand) (ho : o.op = .load ty x)
    (g : Nat) (hx : a.eval x = .pointer (some ⟨g, 0, none⟩)) (t : TypeId) (cs : Array Value) (fr : Nat × Nat) (d : TypeDesc) (hg : w.heap[g]? = some (.cells cs t fr))
    (hu : P.underlying ty = some d) (hd : (match d with | .struct _ | .array _ _ => true | _ => false) = true) (hi : (P.info? ty).map (·.size) = some cs.size)
    (h : wpList P ops Q rest (a.put o.dst (.agg cs)) w) : wpList P ops Q (o :: rest) a w :=
  wpList_step fun K hK => by
    rw [if_pos hw]
    exact wp_load_row ty x ho g hx t cs fr d hg hu hd hi (hK _ _ h)
set_option maxRecDepth 100000 in
set_option maxHeartbeats 1600000 in
theorem Np (cs : Array Value) (kind : Int) (C : Nat → Int) (ZR : Nat → Bool) (w : World) (hsz : cs.size = 22) (h0 : cs[0]? = some (.int .i64 kind)) (hinf : (Tryz.prog.info? 34).map (·.size) = some cs.size)
    (hC : ∀ (f : Nat) (w' : World), f < 14 → ZW kind f = true → w.grownBy w' none → Calls Tryz.prog 42 #[.agg cs, .int .i64 f] w' fun e w'' => e = .returned (.int .i64 (C f)) ∧ w'.grownBy w'' none)
    (hZ : ∀ (f : Nat) (w' : World), f < 14 → Calls Tryz.prog 43 #[.agg cs, .int .i64 f] w' fun e w'' => e = .returned (.bool (ZR f)) ∧ w'.grownBy w'' none) (hk : Kn kind) (VO : Int)
    (hV : VO = if UP (A9 kind C) ≠ 0 then UP (A9 kind C) else if (List.range 14).all (fun f => ZW kind f || ZR f) = true then 0 else 18) :
    Calls Tryz.prog 31 #[.agg cs] w fun e w' => e = .returned (.int .i64 VO) ∧ w.grownBy w' none := by
  have HV := Lib.hid hV
  have hc0 : ∀ h, cs[0]'h = .int .i64 kind := fun h => by
    have := Array.getElem?_eq_getElem h
    rw [h0] at this
    exact (Option.some.inj this).symm
  have CZ := Lib.hid hZ
  have CU := Lib.hid (fun w => Nj kind w hk)
  have hlen := No kind
  have HIN := Lib.hid (fun x (h : x ∈ Yl kind) => OB h)
  have HC := Lib.hid hC
  have HM := Lib.hid (fun (f : Nat) (hf : f < 14) => LQ kind C hf)
  have HML := Lib.hid (Fq kind C)
  have hmine : ZW kind = fun f : Nat => (Yl kind).contains (f : Int) := rfl
  have hmk := congrFun hmine
  generalize A9 kind C = MC at *
  generalize ZW kind = MB at *
  generalize Yl kind = U at *
  have HMK := Lib.hid hmk
  have henil := fun a n c w => Oz (P := Tryz.prog) Tryz.underlying22 a n c w
  clear hC hk hmine hmk hV hZ
  go_enter Tryz.func31, Tryz.ntmps31
  go_wp2_with fail
  refine (CU.out _).mono ?_
  rintro e w1 ⟨a, rfl, IU, g1⟩
  have c1 : BN w.heap.size cs 34 w1 := (BN.new w _ _).keep g1
  have G1 := (Wk _ _).trans' g1
  have hz1 := c1.lt
  clear g1
  go_wp2_with fail
  go_loopw [6, 17] (fun _ i wr => ∃ j : Nat, j ≤ U.length ∧ i = .int .i64 j ∧ LR w1.heap.size (U.take j) wr ∧ w1.grownBy wr none ∧ w1.heap.size < wr.heap.size) (fun _ i _ => U.length - (intOf i).toNat)
  case atStart => exact ⟨0, by omega, rfl, LR.new _ _ (by rfl), Wk _ _, by simp⟩
  case round =>
    obtain ⟨j, hj, rfl, hM, g2, hz2⟩ := hrel
    by_cases hlt : j < U.length
    · obtain ⟨b, off, hab, hb, hc⟩ := (IU.grown g2).at (by omega)
      injection hab with hab
      subst hab
      have y := hc j hlt
      have hx := HIN.out _ (IC hlt)
      have HS := Lib.hid (GI hlt)
      obtain ⟨X, hX⟩ : ∃ X : Nat, gI U j = X := ⟨(gI U j).toNat, by omega⟩
      rw [hX] at y hx HS
      have hX14 : (X : Int) < 14 := by omega
      have hX0 : (0 : Int) ≤ X := by omega
      have e1 : (j : Int) < U.length := by omega
      have e2 : (0 : Int) ≤ j := by omega
      have f1 := hM.cell (f := X) (by omega)
      have f2 := hM.froz X
      clear hc hX
      go_wp2
      go_roundw
      case rel =>
        refine ⟨j + 1, by omega, by go_num, ?_, M6 g2 _ (Nat.le_refl _), by simpa using hz2⟩
        rw [HS.out]
        exact hM.set (by omega)
      case measure => simp [intOf]; omega
    · obtain rfl : j = U.length := by omega
      rw [List.take_of_length_le (by omega)] at hM
      rename World => w2
      have c2 := c1.keep g2
      have G2 := G1.trans' g2
      clear c1 IU CU G1 g2 hlt hj
      go_wp2_with fail
      go_loopw [7, 8, 24] (fun _ _ i ws => ∃ f : Nat, f ≤ 14 ∧ i = .int .i64 f ∧ Hid (∀ g, g < f → gI MC g = 0) ∧ w2.grownBy ws none) (fun _ _ i _ => 14 - (intOf i).toNat)
      case atStart => exact ⟨0, by omega, rfl, fun g hg => absurd hg (by omega), EN _⟩
      case round =>
        obtain ⟨f, hf, rfl, hall, g3⟩ := hrel
        have M3 := hM.keep g3
        have c3 := c2.keep g3
        have G3 := G2.trans' g3
        by_cases hlt : f < 14
        · have f1 := M3.cell hlt
          rw [← HMK.out] at f1
          have hmc := HM.out f hlt
          have e1 : (f : Int) < 14 := by omega
          have e2 : (0 : Int) ≤ f := by omega
          have hcc := fun h => HC.out f wr hlt h G3
          have hnx : gI MC f = 0 → Hid (∀ g, g < f + 1 → gI MC g = 0) := fun h g hg => by
            by_cases e : g = f
            · rw [e]; exact h
            · exact hall.out g (by omega)
          have hbad : gI MC f ≠ 0 → Hid (VO = gI MC f) := fun h => by
            have hq := PO (L := MC) (k := f) (by rw [HML.out]; exact hlt) hall.out h
            show _ = _
            rw [HV.out, hq, if_pos h]
          generalize MB f = mb at *
          cases mb
          · have HS := Lib.hid (hnx (by rw [hmc]; rfl))
            clear hcc hmc hnx hbad
            go_wp2
            go_roundw
            case rel => exact ⟨f + 1, by omega, by go_num, HS.out, g3⟩
            case measure => simp [intOf]; omega
          · rw [if_pos rfl] at hmc
            rw [hmc] at hnx hbad
            have CK := Lib.hid (hcc rfl)
            generalize C f = ce at *
            clear hcc hmc
            by_cases hce : ce = 0
            · have HS := Lib.hid (hnx hce)
              subst hce
              clear hnx hbad
              go_wp2_with (refine wpList_load_row rfl 34 _ rfl _ rfl _ cs (0, 0) _ c3 Tryz.underlying34 rfl hinf ?_)
              go_wp2_with fail
              refine CK.out.mono ?_
              rintro e w5 ⟨rfl, g5⟩
              clear f1
              go_wp2
              go_roundw
              case rel => exact ⟨f + 1, by omega, by go_num, HS.out, g3.trans' g5⟩
              case measure => simp [intOf]; omega
            · have HB := hbad hce
              have hcb : (ce != 0) = true := bne_iff_ne.2 hce
              clear hnx hbad hce
              go_wp2_with (refine wpList_load_row rfl 34 _ rfl _ rfl _ cs (0, 0) _ c3 Tryz.underlying34 rfl hinf ?_)
              go_wp2_with fail
              refine CK.out.mono ?_
              rintro e w5 ⟨rfl, g5⟩
              clear f1
              go_wp2
              go_ret
              rw [HB.out]
              exact ⟨rfl, G3.trans' g5⟩
        · obtain rfl : f = 14 := by omega
          have HZ : Hid (UP MC = 0) := Iq (fun i hi => hall.out i (by rw [HML.out] at hi; exact hi))
          have hV2 : VO = if (List.range 14).all (fun f => MB f || ZR f) = true then 0 else 18 := by
            rw [HV.out, HZ.out, if_neg (by simp)]
          have HV2 := Lib.hid hV2
          clear hM c2 G2 hall hlt hf HV HM HML HC hV2 HZ
          rename World => w3
          go_wp2_with fail
          go_loopw [9, 38] (fun _ i ws => ∃ f : Nat, f ≤ 14 ∧ i = .int .i64 f ∧ Hid (∀ g, g < f → (MB g || ZR g) = true) ∧ w3.grownBy ws none) (fun _ i _ => 14 - (intOf i).toNat)
          case atStart => exact ⟨0, by omega, rfl, fun g hg => absurd hg (by omega), EN _⟩
          case round =>
            obtain ⟨f, hf, rfl, hall, g4⟩ := hrel
            have M4 := M3.keep g4
            have c4 := c3.keep g4
            have G4 := G3.trans' g4
            by_cases hlt : f < 14
            · have f1 := M4.cell hlt
              rw [← HMK.out] at f1
              have e1 : (f : Int) < 14 := by omega
              have e2 : (0 : Int) ≤ f := by omega
              have hnx : (MB f || ZR f) = true → Hid (∀ g, g < f + 1 → (MB g || ZR g) = true) := fun h g hg => by
                by_cases e : g = f
                · rw [e]; exact h
                · exact hall.out g (by omega)
              have hbad : (MB f || ZR f) = false → Hid (VO = 18) := fun h => by
                show _ = _
                rw [HV2.out, if_neg]
                intro hh
                have := List.all_eq_true.1 hh f (by simpa using hlt)
                rw [h] at this
                cases this
              have CK := Lib.hid (CZ.out f wr hlt)
              generalize MB f = mb at *
              cases mb
              · generalize ZR f = zf at *
                cases zf
                · have HB := hbad rfl
                  clear hnx hbad
                  go_wp2_with (refine U4 (by first | rfl | simp [Region.wanted, yielded]) 34 _ rfl _ rfl _ cs (0, 0) _ c4 Tryz.underlying34 rfl hinf ?_)
                  go_wp2_with fail
                  refine CK.out.mono ?_
                  rintro e w5 ⟨rfl, g5⟩
                  clear f1
                  go_wp2
                  go_ret
                  rw [HB.out]
                  exact ⟨rfl, G4.trans' g5⟩
                · have HS := Lib.hid (hnx rfl)
                  clear hnx hbad
                  go_wp2_with (refine U4 (by first | rfl | simp [Region.wanted, yielded]) 34 _ rfl _ rfl _ cs (0, 0) _ c4 Tryz.underlying34 rfl hinf ?_)
                  go_wp2_with fail
                  refine CK.out.mono ?_
                  rintro e w5 ⟨rfl, g5⟩
                  clear f1
                  go_wp2
                  go_roundw
                  case rel =>
                    refine ⟨_, _, _, _, _, _, _, _, _, _, _, _, _, _, _, _, ?_, rfl⟩
                    exact ⟨f + 1, by omega, by go_num, HS.out, g4.trans' g5⟩
                  case measure => simp [intOf]; omega
              · have HS := Lib.hid (hnx rfl)
                clear hnx hbad
                go_wp2
                go_roundw
                case rel => exact ⟨f + 1, by omega, by go_num, HS.out, g4⟩
                case measure => simp [intOf]; omega
            · obtain rfl : f = 14 := by omega
              have HB := Lib.hid (show VO = 0 by
                rw [HV2.out, if_pos]
                exact List.all_eq_true.2 fun g hg => hall.out g (by simpa using hg))
              clear c4 M4
              go_wp2
              go_ret
              rw [HB.out]
              exact ⟨rfl, G4⟩
end Go.Proofs.YtpnpodbihdiegaaGreat
namespace Go.Proofs.YtpnpodbihdiegaaGreat
open Go.RowKit Go.ChangeShapes Go.WideShapes
theorem Tryz.infoOp : (Tryz.prog.info? 34).map (·.size) = some 22 := by kernel_rfl
set_option maxRecDepth 100000 in
set_option maxHeartbeats 1600000 in
theorem Nq (cs : Array Value) (kind : Int) (w : World) (hsz : cs.size = 22) (h0 : cs[0]? = some (.int .i64 kind)) (hk : ¬ Kn kind) :
    Calls Tryz.prog 31 #[.agg cs] w fun e w' => e = .returned (.int .i64 8) ∧ w.grownBy w' none := by
  have hc0 : ∀ h, cs[0]'h = .int .i64 kind := fun h => by
    have := Array.getElem?_eq_getElem h
    rw [h0] at this
    exact (Option.some.inj this).symm
  have CU := Lib.hid (fun w => OA kind w hk)
  have henil := fun w => Nh (P := Tryz.prog) Tryz.underlying22 w
  go_enter Tryz.func31, Tryz.ntmps31
  go_wp2_with fail
  refine (CU.out _).mono ?_
  rintro e w1 ⟨rfl, rfl⟩
  go_wp2
  go_ret
  exact ⟨rfl, Wk _ _⟩
theorem Mr (o : OpD) (C : Nat → Int) (vn vi vc vd : Value) (w : World)
    (h1 : Sl vn o.names.length) (h2 : Sl vi o.items.length) (h3 : Sl vc o.coins.length) (h4 : Sl vd o.data.length)
    (hC : ∀ (f : Nat) (w' : World), f < 14 → ZW o.kind f = true → w.grownBy w' none → Calls Tryz.prog 42 #[opV o vn vi vc vd, .int .i64 f] w' fun e w'' => e = .returned (.int .i64 (C f)) ∧ w'.grownBy w'' none) :
    Calls Tryz.prog 31 #[opV o vn vi vc vd] w fun e w' => e = .returned (.int .i64 (G8 o C)) ∧ w.grownBy w' none := by
  by_cases hk : Kn o.kind
  · refine Np _ o.kind C (CF o) w (by rfl) (by rfl) (by exact Tryz.infoOp) hC (fun f w' hf => Nk o f vn vi vc vd w' hf h1 h2 h3 h4) hk _ ?_
    unfold G8
    rw [if_neg (by simp [hk])]
  · unfold G8
    rw [if_pos hk]
    exact Nq _ o.kind w (by rfl) (by rfl) hk
def UB (a : Qo) : OpD := ⟨a.fk, a.fb4, a.fi, a.fa0, a.fa.fk, a.fa.fg, a.fa.fu, a.fa.fw, a.f0.map (fun x => (x.fa4, x.fa8)), a.fb0, a.f9, a.fa6, a.fa1, a.fb1, a.fa2, a.fv, a.fo.fk, a.fo.fa4, a.fo.fv, a.fo.fb9, a.fo.fb8, a.fb3⟩
def XA (a0 : Qo) (r : Int) : Prop :=
  (Lit.int .i64 r).wf = true ∧ ∃ C : Nat → Int, (∀ f : Nat, f < 14 → ZW a0.fk f = true → V2 a0 f (C f)) ∧ r = G8 (UB a0) C
theorem OC {w : World} {A : Nat → Prop} {gs : Nat → Option Nat} {g q : Nat} {xs : List PV} {vs : Array Value} (h : Mx w A gs g q [.agg xs] vs.toList) : ∃ cs, vs = #[.agg cs] ∧ Du w A (fun _ => none) 0 (xs.map .p) cs.toList := by
  suffices ∃ cs, vs.toList = [.agg cs] ∧ Du w A (fun _ => none) 0 (xs.map .p) cs.toList by
    obtain ⟨cs, h1, h2⟩ := this
    exact ⟨cs, by have := congrArg List.toArray h1; simpa using this, h2⟩
  revert h
  generalize vs.toList = l
  intro h
  match l, h with
  | [v], h =>
    obtain ⟨cs, rfl, h2⟩ := h.1
    exact ⟨cs, rfl, h2⟩
theorem K0 {w : World} {A : Nat → Prop} {gs : Nat → Option Nat} {n : Nat} {x : RV} {r : List RV} {us : List Value} (h : Du w A gs n (x :: r) us) : ∃ u us', us = u :: us' ∧ Pl w A (gs n) x u ∧ Du w A gs (n + 1) r us' := by
  cases us with
  | nil => exact h.elim
  | cons u us => exact ⟨u, us, rfl, h.2.1, h.2.2⟩
theorem Az {w : World} {A : Nat → Prop} {go : Option Nat} {x u : Value} (h : Pl w A go (.p (.v x)) u) : u = x := by
  have : RP w A (.v x) u := h
  cases this with | v _ _ => rfl
theorem LS {w : World} {A : Nat → Prop} {go : Option Nat} {e : Nat} {rows : List (List PV)} {u : Value} (h : Pl w A go (.p (.l e rows)) u) : Sl u rows.length := by
  have : RP w A (.l e rows) u := h
  cases this with | l _ _ a cap c _ _ _ _ _ => exact ⟨a, cap, rfl⟩
set_option maxRecDepth 100000 in
theorem PP {w : World} {A : Nat → Prop} {a0 : Qo} {cs : Array Value} (hcs : Du w A (fun _ => none) 0 ((Zf a0).map .p) cs.toList) : ∃ vn vi vc vd, Value.agg cs = opV (UB a0) vn vi vc vd ∧ Sl vn (UB a0).names.length ∧ Sl vi (UB a0).items.length ∧ Sl vc (UB a0).coins.length ∧ Sl vd (UB a0).data.length := by
  simp only [Zf, List.map_cons, List.map_nil] at hcs
  obtain ⟨u0, l0, e0, h0, hcs⟩ := K0 hcs
  have x0 := Az h0
  obtain ⟨u1, l1, e1, h1, hcs⟩ := K0 hcs
  have x1 := Az h1
  obtain ⟨u2, l2, e2, h2, hcs⟩ := K0 hcs
  have x2 := Az h2
  obtain ⟨u3, l3, e3, h3, hcs⟩ := K0 hcs
  have x3 := LS h3
  obtain ⟨u4, l4, e4, h4, hcs⟩ := K0 hcs
  have x4 := Az h4
  obtain ⟨u5, l5, e5, h5, hcs⟩ := K0 hcs
  have x5 := Az h5
  obtain ⟨u6, l6, e6, h6, hcs⟩ := K0 hcs
  have x6 := Az h6
  obtain ⟨u7, l7, e7, h7, hcs⟩ := K0 hcs
  have x7 := Az h7
  obtain ⟨u8, l8, e8, h8, hcs⟩ := K0 hcs
  have x8 := LS h8
  obtain ⟨u9, l9, e9, h9, hcs⟩ := K0 hcs
  have x9 := LS h9
  obtain ⟨u10, l10, e10, h10, hcs⟩ := K0 hcs
  have x10 := Az h10
  obtain ⟨u11, l11, e11, h11, hcs⟩ := K0 hcs
  have x11 := Az h11
  obtain ⟨u12, l12, e12, h12, hcs⟩ := K0 hcs
  have x12 := Az h12
  obtain ⟨u13, l13, e13, h13, hcs⟩ := K0 hcs
  have x13 := Az h13
  obtain ⟨u14, l14, e14, h14, hcs⟩ := K0 hcs
  have x14 := Az h14
  obtain ⟨u15, l15, e15, h15, hcs⟩ := K0 hcs
  have x15 := Az h15
  obtain ⟨u16, l16, e16, h16, hcs⟩ := K0 hcs
  have x16 := Az h16
  obtain ⟨u17, l17, e17, h17, hcs⟩ := K0 hcs
  have x17 := Az h17
  obtain ⟨u18, l18, e18, h18, hcs⟩ := K0 hcs
  have x18 := Az h18
  obtain ⟨u19, l19, e19, h19, hcs⟩ := K0 hcs
  have x19 := Az h19
  obtain ⟨u20, l20, e20, h20, hcs⟩ := K0 hcs
  have x20 := Az h20
  obtain ⟨u21, l21, e21, h21, hcs⟩ := K0 hcs
  have x21 := LS h21
  have hl : cs.toList = [u0, u1, u2, u3, u4, u5, u6, u7, u8, u9, u10, u11, u12, u13, u14, u15, u16, u17, u18, u19, u20, u21] := by
    have h0 : l21 = [] := by
      cases l21 with
      | nil => rfl
      | cons v l => exact hcs.elim
    rw [e0, e1, e2, e3, e4, e5, e6, e7, e8, e9, e10, e11, e12, e13, e14, e15, e16, e17, e18, e19, e20, e21, h0]
  refine ⟨u3, u8, u9, u21, ?_, by simpa [UB] using x3, by simpa [UB] using x8, by simpa [UB] using x9, by simpa [UB] using x21⟩
  have hc : cs = #[u0, u1, u2, u3, u4, u5, u6, u7, u8, u9, u10, u11, u12, u13, u14, u15, u16, u17, u18, u19, u20, u21] := by have := congrArg List.toArray hl; simpa using this
  rw [hc, x0, x1, x2, x4, x5, x6, x7, x10, x11, x12, x13, x14, x15, x16, x17, x18, x19, x20]
  rfl
theorem B4 {a0 : Qo} {r : Int} (h : XA a0 r) : Qq Tryz.prog 31 [.agg (Zf a0)] [.c (.p (.v (.int .i64 r)))] [] := by
  obtain ⟨hwf, C, hC, hr⟩ := h
  refine Fb (by kernel_rfl) hwf rfl fun A q w vs hA hR => ?_
  obtain ⟨cs, rfl, hcs⟩ := OC hR
  obtain ⟨vn, vi, vc, vd, hv, h1, h2, h3, h4⟩ := PP hcs
  rw [hv, hr]
  rw [hv] at hR
  refine Mr (UB a0) C vn vi vc vd w h1 h2 h3 h4 fun f w' hf hm g => ?_
  refine Ug (A := A) (q := 0) (g := w'.heap.size) (D9 (hC f hf hm)) rfl (fun x hx => Nat.lt_of_lt_of_le (hA x hx) g.size) ?_
  have h1 := I8 (g' := w'.heap.size) (q' := 0) g hA rfl hR
  refine ⟨h1.1, .v _ ?_, trivial⟩
  simp only [KC, Lit.wf, Bool.and_eq_true, decide_eq_true_eq]
  constructor <;> simp [IntKind.min, IntKind.max, IntKind.bits, IntKind.signed] <;> omega
end Go.Proofs.YtpnpodbihdiegaaGreat
