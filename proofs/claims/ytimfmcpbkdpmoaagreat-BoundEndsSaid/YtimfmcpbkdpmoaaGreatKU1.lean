/- Parts of the proof, laid together. No condition. -/
import Derived.Test.YtimfmcpbkdpmoaaGreatKB6
set_option linter.unusedVariables false
set_option linter.unusedSimpArgs false
set_option maxRecDepth 100000
set_option maxHeartbeats 4000000
namespace Go.Proofs.YtimfmcpbkdpmoaaGreat
open Go.RowKit
theorem Qa2 : Lq := Zp (ZU.eq_1 _ _)
theorem HV [Zt] [Wj] [AK] [Dl] [Yc] [Dk] : Uj := Zp (Kq.eq_1 _ _)
theorem O4 [ZF] [Zx] [Bo] [EJ] : CW := Zp (VS.eq_1 _ _ _)
theorem Q5q [Vh] [XM] [WU] [YJ] [BC] [UM] [WP] [Wn] [HP] [CW] : EL := Zp (YS.eq_1 _ _)
theorem Q5r [YK] [HO] [Cu] [Yd] : EM := fun {a0} {a1} {a2} => nx1 (YQ.eq_1 _ _ _)
theorem Pu [Ci] [JW] [Cu] [FA] [Fz] [WV] [EM] [Wt] : Eg := fun {a0} {a1} {a2} {a3} => nx1 (Xx.eq_1 _ _ _ _)
theorem Ir [UT] : UN := fun {a0} {a1} {a2} => nx1 (KU.eq_1 _ _ _)
theorem S9 : UU := nxb (Vk.eq_1 _)
theorem Q5s [x_ref12_New : EK] [x_ref12_Insert : BD] : HU := fun {a0} {a1} {a2} => ⟨fun hp => ex_ (by
 obtain ⟨⟨h1, h2⟩, h3⟩ := hp
 rw [U4.eq_1]
 obtain ⟨v, hv, hz⟩ := (x_ref12_New (a0 := a0)).go trivial
 refine ⟨v, hv, Iq (fun p => zS (Q9.mk (Q7.mk p.1 p.2.1 p.2.2.1 p.2.2.2.1) (Qb.mk p.2.2.2.2.1 p.2.2.2.2.2.1 p.2.2.2.2.2.2.1) (Q3.mk p.2.2.2.2.2.2.2.1 p.2.2.2.2.2.2.2.2.1 p.2.2.2.2.2.2.2.2.2.1 p.2.2.2.2.2.2.2.2.2.2.1 p.2.2.2.2.2.2.2.2.2.2.2.1) (Q8.mk p.2.2.2.2.2.2.2.2.2.2.2.2.1 p.2.2.2.2.2.2.2.2.2.2.2.2.2.1 p.2.2.2.2.2.2.2.2.2.2.2.2.2.2.1) (Qd.mk p.2.2.2.2.2.2.2.2.2.2.2.2.2.2.2.1 p.2.2.2.2.2.2.2.2.2.2.2.2.2.2.2.2.1 p.2.2.2.2.2.2.2.2.2.2.2.2.2.2.2.2.2.1 p.2.2.2.2.2.2.2.2.2.2.2.2.2.2.2.2.2.2.1) (Q4.mk p.2.2.2.2.2.2.2.2.2.2.2.2.2.2.2.2.2.2.2.1 p.2.2.2.2.2.2.2.2.2.2.2.2.2.2.2.2.2.2.2.2.1 p.2.2.2.2.2.2.2.2.2.2.2.2.2.2.2.2.2.2.2.2.2.1 p.2.2.2.2.2.2.2.2.2.2.2.2.2.2.2.2.2.2.2.2.2.2.1 p.2.2.2.2.2.2.2.2.2.2.2.2.2.2.2.2.2.2.2.2.2.2.2.1) (Qa.mk p.2.2.2.2.2.2.2.2.2.2.2.2.2.2.2.2.2.2.2.2.2.2.2.2.1 p.2.2.2.2.2.2.2.2.2.2.2.2.2.2.2.2.2.2.2.2.2.2.2.2.2.1 p.2.2.2.2.2.2.2.2.2.2.2.2.2.2.2.2.2.2.2.2.2.2.2.2.2.2.1 p.2.2.2.2.2.2.2.2.2.2.2.2.2.2.2.2.2.2.2.2.2.2.2.2.2.2.2.1 p.2.2.2.2.2.2.2.2.2.2.2.2.2.2.2.2.2.2.2.2.2.2.2.2.2.2.2.2))) (fun p h => h) fun J hJ => ?_⟩
 refine Cp (I := fun n s => ∃ (sk : Q9) (at_ : Int) (j : Nat), zS sk ∧ j ≤ a1.length ∧ n = a1.length - j ∧ s = (at_, (j : Int), sk.fj.f8, sk.fj.fu, sk.fj.fa4, sk.fj.fa2, sk.fa1.fy, sk.fa1.fa7, sk.fa1.fc, sk.fh.fa4, sk.fh.fu, sk.fh.fa2, sk.fh.fb9, sk.fh.fc, sk.f7.fa5, sk.f7.fa2, sk.f7.fa3, sk.fb0.fu, sk.fb0.fy, sk.fb0.fq, sk.fb0.fc, sk.fi.fu, sk.fi.fy, sk.fi.fd3, sk.fi.fq, sk.fi.fc, sk.fw.fu, sk.fw.fy, sk.fw.fc8, sk.fw.fa9, sk.fw.fc)) ?_ (k := a1.length) ⟨v.1, 0, 0, hz, by omega, by omega, rfl⟩
 rintro n s ⟨sk, q, j, hs, hj, hn, rfl⟩ X hX
 refine ⟨fun c => ?_, fun c => hJ _ hs⟩
 have hj2 : j < a1.length := by simpa using c
 have w : IntKind.i64.wrap ((j : Int) + 1) = ((j + 1 : Nat) : Int) := by rw [KI (by omega)]; omega
 rw [w]
 obtain ⟨u, hu, hu2⟩ := (x_ref12_Insert (a0 := sk) (a1 := a1[j]) (a2 := a2) (a3 := q)).go ⟨hs, h2 _ (List.getElem_mem hj2), h3⟩
 exact ⟨_, GP hj2, u, hu, hX (a1.length - (j + 1)) _ (by omega) ⟨u.1, u.2.1, j + 1, hu2, by omega, rfl, rfl⟩⟩)⟩
end Go.Proofs.YtimfmcpbkdpmoaaGreat
