/- Parts of the proof, laid together. No condition. -/
import Derived.Test.YtimfmcpbkdpmoaaGreatKB6
set_option linter.unusedVariables false
set_option linter.unusedSimpArgs false
set_option maxRecDepth 100000
set_option maxHeartbeats 4000000
namespace Go.Proofs.YtimfmcpbkdpmoaaGreat
open Go.RowKit
theorem PZ [Cz] [V2] [CM] [FN] [FM] [U3] [F1] [Wz] : Ex := fun {a0} {a1} {a2} {a3} => Gf (XH.eq_1 _ _ _ _) (fun h => by
 obtain ⟨hz, hc, ho, hm⟩ := h
 refine U0 (Z5 (fun c => ?_) fun c => Z5 (fun d => ?_) fun d => ?_)
 ·have c1 : a3.fc5 = 0 := by simpa using c
  refine K2 ⟨hz, by simp⟩ fun v _ hv => Z5 (fun e => K2 ⟨hz, hv.1.2⟩ fun w _ hw => ⟨hw.1.1, VJ.o hw.2.1 (KS.refl _), BtP.dn hw.2.2 (by omega), fun _ h => absurd c1 h⟩) fun e => ?_
  have e1 : v.2.2 = 0 := by simpa using e
  obtain ⟨⟨⟨v1, v2, v3⟩, v4⟩, v5, v6, v7⟩ := hv
  have vl := v3 e1
  simp only [List.length_cons, List.length_nil] at vl
  refine AR (fun p => p.1 ≠ 16 ∧ p.2 = (v.2.1.fa9, v.2.1.ff.fh.fc0, v.2.1.ff.f8.fa3, v.2.1.ff.fb1.fq, v.2.1.ff.fi.fq, v.2.1.ff.fw.fa8, v.2.1.fg.fh.fc0, v.2.1.fg.f8.fa3, v.2.1.fg.fb1.fq, v.2.1.fg.fi.fq, v.2.1.fg.fw.fa8)) ?_ fun J hJ => ?_
  ·rintro ⟨er, t⟩ ⟨n16, rfl⟩
   refine Z5 (fun _ => K2 ⟨v1, v2⟩ fun w _ hw => K2 ⟨hw.1.1, n16⟩ fun u _ hu => ⟨hu.1.1, VJ.o hu.2.1 (v5.trans hw.2), BtP.dn hu.2.2 (by omega), fun _ h => absurd c1 h⟩) fun _ => K2 v2.2.2.2.2.2.2 fun n _ hn => ⟨⟨v1, ⟨v2.1, v2.2.1, v2.2.2.1, v2.2.2.2.1, v2.2.2.2.2.1, v2.2.2.2.2.2.1, v2.2.2.2.2.2.2⟩, by show (0 : Int) ≠ 16; decide⟩, VJ.o rfl v5, ⟨fun _ _ => ⟨rfl, ⟨hn.1, hn.2⟩, (v6 e1).1, (v6 e1).2⟩, fun h => absurd c1 (by omega), fun h => absurd c1 h⟩, fun _ h => absurd c1 h⟩
  ·obtain ⟨x, hx, _⟩ := Zp (l := v.2.1.fa9) (n := 0) (by omega) (by omega)
   obtain ⟨y, hy, _⟩ := Zp (l := v.2.1.fa9) (n := 1) (by omega) (by omega)
   exact ⟨x, fun _ => hx, y, fun _ => hy, U0 (Z5 (fun _ => hJ _ ⟨by show (15 : Int) ≠ 16; decide, rfl⟩) fun _ => Z5 (fun _ => hJ _ ⟨by show (10 : Int) ≠ 16; decide, rfl⟩) fun _ => hJ _ ⟨v4, rfl⟩)⟩
 ·have c1 : a3.fc5 = 1 := by simpa using d
  refine AR (fun p => ∃ (ph : Int) (x : Q9), zS x ∧ p = (ph, x.fk.fa0, x.fk.fu, x.fk.fa5, x.fk.fa6, x.fa4.fy, x.fa4.fb3, x.fa4.fc, x.fh.fa5, x.fh.fu, x.fh.fa6, x.fh.fc0, x.fh.fc, x.f8.fa7, x.f8.fa6, x.f8.fa3, x.fb1.fu, x.fb1.fy, x.fb1.fq, x.fb1.fc, x.fi.fu, x.fi.fy, x.fi.fd3, x.fi.fq, x.fi.fc, x.fw.fu, x.fw.fy, x.fw.fc9, x.fw.fa8, x.fw.fc) ∧ ph = (if KF (IntKind.i64.wrap (a3.fd7 - KF a1 1)) 0 = 0 then 2 else 1)) ?_ fun J hJ => Z5 (fun c => K2 ⟨hm.2.1, hm.2.2.1, ho.2.2.1⟩ fun w _ hw => U0 (hJ _ ⟨2, w.1, hw, rfl, by rw [if_pos (by simpa using c)]⟩)) fun c => hJ _ ⟨a3.fc5, a3.ff, hm.2.1, rfl, by rw [if_neg (by simpa using c)]; exact c1⟩
  rintro p ⟨ph, x, zx, rfl, hph⟩
  refine ⟨⟨hz, ⟨hm.1, zx, hm.2.2⟩, by show (0 : Int) ≠ 16; decide⟩, VJ.o rfl (KS.refl _), ⟨fun h => absurd h (by omega), fun _ lf => ⟨rfl, rfl, rfl, ?_, hph⟩, fun _ h => absurd c1 h⟩, fun _ _ h => absurd c1 h⟩
  obtain ⟨l0, l1⟩ := lf
  dsimp only
  rw [U1, U1, Za (by omega)]
 ·have n0 : a3.fc5 ≠ 0 := by simpa using c
  have n1 : a3.fc5 ≠ 1 := by simpa using d
  refine K2 ⟨hz, hm, by simp⟩ fun v _ hv => Z5 (fun e => K2 ⟨hz, hm⟩ fun w _ hw => ⟨hw.1.1, hw.2.2, BtP.dn hw.2.1 n1, fun _ _ _ => hw.2.1⟩) fun e => K2 ⟨hz, hm⟩ fun w _ hw => Z5 (fun k => ?_) fun k => K2 hw.1.1 fun b _ _ => nxg (fun _ => hw.1.1) fun b2 _ _ => U0 (Z5 (fun _ => K2 ⟨hw.1.1, by decide⟩ fun u _ hu => ⟨hu.1.1, VJ.o hu.2.1 hw.2, BtP.dn hu.2.2 n1, fun _ _ _ => hu.2.2⟩) fun _ => K2 ⟨hw.1.1, by decide⟩ fun u _ hu => ⟨hu.1.1, VJ.o hu.2.1 hw.2, BtP.dn hu.2.2 n1, fun _ _ _ => hu.2.2⟩)
  have e2 : v = false := by simpa using e
  refine ⟨?_, VJ.o rfl hw.2, ⟨fun e => absurd e n0, fun e => absurd e n1, fun _ _ => ⟨fun hs => absurd (hv hs) (by simp [e2]), fun _ => rfl⟩⟩, fun h8 => absurd h8 (by simpa using k)⟩
  have q := hw.1.1
  clear hw hv hm hz ho
  revert q; exact yx_)
theorem NF : YQ := ZM (KL.eq_1 _ _ _)
theorem R0 : Ur := ZM (Zl.eq_1 _ _)
theorem Q26 [F2] [C9] [UZ] : MQ := fun {a0} => Gf (W1.eq_1 _)
theorem Q6q [x_ref12_New : EZ] [x_ref12_Insert : BM] : If := fun {a0} {a1} {a2} => ⟨fun hp => ex_ (by
 obtain ⟨⟨h1, h2⟩, h3, hpa⟩ := hp
 rw [Ub.eq_1]
 obtain ⟨v, hv, hz⟩ := (x_ref12_New (a0 := a0)).go hpa
 refine ⟨v, hv, AR (fun p => zS (Q9.mk (Q7.mk p.1 p.2.1 p.2.2.1 p.2.2.2.1) (Qd.mk p.2.2.2.2.1 p.2.2.2.2.2.1 p.2.2.2.2.2.2.1) (Q3.mk p.2.2.2.2.2.2.2.1 p.2.2.2.2.2.2.2.2.1 p.2.2.2.2.2.2.2.2.2.1 p.2.2.2.2.2.2.2.2.2.2.1 p.2.2.2.2.2.2.2.2.2.2.2.1) (Q8.mk p.2.2.2.2.2.2.2.2.2.2.2.2.1 p.2.2.2.2.2.2.2.2.2.2.2.2.2.1 p.2.2.2.2.2.2.2.2.2.2.2.2.2.2.1) (Qf.mk p.2.2.2.2.2.2.2.2.2.2.2.2.2.2.2.1 p.2.2.2.2.2.2.2.2.2.2.2.2.2.2.2.2.1 p.2.2.2.2.2.2.2.2.2.2.2.2.2.2.2.2.2.1 p.2.2.2.2.2.2.2.2.2.2.2.2.2.2.2.2.2.2.1) (Q4.mk p.2.2.2.2.2.2.2.2.2.2.2.2.2.2.2.2.2.2.2.1 p.2.2.2.2.2.2.2.2.2.2.2.2.2.2.2.2.2.2.2.2.1 p.2.2.2.2.2.2.2.2.2.2.2.2.2.2.2.2.2.2.2.2.2.1 p.2.2.2.2.2.2.2.2.2.2.2.2.2.2.2.2.2.2.2.2.2.2.1 p.2.2.2.2.2.2.2.2.2.2.2.2.2.2.2.2.2.2.2.2.2.2.2.1) (Qa.mk p.2.2.2.2.2.2.2.2.2.2.2.2.2.2.2.2.2.2.2.2.2.2.2.2.1 p.2.2.2.2.2.2.2.2.2.2.2.2.2.2.2.2.2.2.2.2.2.2.2.2.2.1 p.2.2.2.2.2.2.2.2.2.2.2.2.2.2.2.2.2.2.2.2.2.2.2.2.2.2.1 p.2.2.2.2.2.2.2.2.2.2.2.2.2.2.2.2.2.2.2.2.2.2.2.2.2.2.2.1 p.2.2.2.2.2.2.2.2.2.2.2.2.2.2.2.2.2.2.2.2.2.2.2.2.2.2.2.2))) (fun p h => h) fun J hJ => ?_⟩
 refine Bp (I := fun n s => ∃ (sk : Q9) (at_ : Int) (j : Nat), zS sk ∧ j ≤ a1.length ∧ n = a1.length - j ∧ s = (at_, (j : Int), sk.fk.fa0, sk.fk.fu, sk.fk.fa5, sk.fk.fa6, sk.fa4.fy, sk.fa4.fb3, sk.fa4.fc, sk.fh.fa5, sk.fh.fu, sk.fh.fa6, sk.fh.fc0, sk.fh.fc, sk.f8.fa7, sk.f8.fa6, sk.f8.fa3, sk.fb1.fu, sk.fb1.fy, sk.fb1.fq, sk.fb1.fc, sk.fi.fu, sk.fi.fy, sk.fi.fd3, sk.fi.fq, sk.fi.fc, sk.fw.fu, sk.fw.fy, sk.fw.fc9, sk.fw.fa8, sk.fw.fc)) ?_ (k := a1.length) ⟨v.1, 0, 0, hz, by omega, by omega, rfl⟩
 rintro n s ⟨sk, q, j, hs, hj, hn, rfl⟩ X hX
 refine ⟨fun c => ?_, fun c => hJ _ hs⟩
 have hj2 : j < a1.length := by simpa using c
 have w : IntKind.i64.wrap ((j : Int) + 1) = ((j + 1 : Nat) : Int) := by rw [Za (by omega)]; omega
 rw [w]
 obtain ⟨u, hu, hu2⟩ := (x_ref12_Insert (a0 := sk) (a1 := a1[j]) (a2 := a2) (a3 := q)).go ⟨hs, h2 _ (List.getElem_mem hj2), h3⟩
 exact ⟨_, G3 hj2, u, hu, hX (a1.length - (j + 1)) _ (by omega) ⟨u.1, u.2.1, j + 1, hu2, by omega, rfl, rfl⟩⟩)⟩
end Go.Proofs.YtimfmcpbkdpmoaaGreat
