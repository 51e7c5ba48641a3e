/- Parts of the proof, laid together. No condition. -/
import Derived.Test.YtikagchjeogchaaGreatKB6
set_option linter.unusedVariables false
set_option linter.unusedSimpArgs false
set_option maxRecDepth 100000
set_option maxHeartbeats 4000000
namespace Go.Proofs.YtikagchjeogchaaGreat
open Go.RowKit
theorem TB : Cm := Zu (ZK.eq_1 _ _ _)
theorem TC : Cn := Zu (Zn.eq_1 _ _ _)
theorem Q1v : ZH := Zu (Qz.eq_1 _ _ _)
theorem TD : LG := Zu (Zg.eq_1 _ _ _)
theorem LP : YI := Zu (ZY.eq_1 _)
theorem TF [U7] : Cp := Zu (VS.eq_1 _ _ _)
theorem TG : FD := Zu (Kv.eq_1 _ _ _)
theorem TH [Jr] [XQ] [Cq] [EK] [DI] : FF := Zu (Yb.eq_1 _ _ _ _)
theorem Q1w [x_ref14_index : U8] : DK := fun {a0} {a1} => Zu (XK.eq_1 _ _) (fun h => by
 obtain ⟨⟨h1, h2, h3⟩, hb⟩ := h
 refine Wk (fun _ => ⟨h1, h2, h3⟩) fun c1 => Wk (fun _ => ⟨h1, h2, h3⟩) fun c2 => ?_
 simp only [decide_eq_false_iff_not] at c1 c2
 refine jmp (fun _ => True) (fun p _ => ?_) fun J hJ => ?_
 ·refine ⟨by omega, by omega, by simp only [List.length_append, List.length_cons, List.length_nil]; omega, jmp (fun l => l.length = a0.fa6.length + 1 ∧ ∀ x ∈ l, x ∈ a0.fa6 ++ [QD.mk p 1 a1]) (fun l hl => ⟨by dsimp only; omega, h2, Z52 (Cl h3 (Df ⟨by dsimp only; omega, hb⟩)) hl.2⟩) fun J hJ => lvi ⟨rfl, by simp only [List.length_append, List.length_cons, List.length_nil]; rw [Vk (by omega)]; omega, by simp only [List.length_append, List.length_cons, List.length_nil]; rw [Vk (by omega)]; omega, fun _ h => h⟩ ?_⟩
  have el : (a0.fa6 ++ [QD.mk p 1 a1]).length = a0.fa6.length + 1 := by simp
  have hJ2 : ∀ q, q.length = a0.fa6.length + 1 → (∀ x ∈ q, x ∈ a0.fa6 ++ [QD.mk p 1 a1]) → J q := fun p g1 g2 => hJ p ⟨g1, g2⟩
  rw [el]
  generalize a0.fa6 ++ [QD.mk p 1 a1] = L at *
  clear c1 c2 h3 hb el
  exact xx_
 ·refine DZ (I := fun n s => 1 ≤ s ∧ (∀ k : Nat, (k : Int) + 1 < s → ((k : Int) + 1) ∈ a0.fa6.map (·.fh3)) ∧ n = (20000 - s).toNat) ?_ (k := 19999) ⟨by decide, fun k hk => by omega, by decide⟩
  rintro n s ⟨g1, g2, g3⟩ X hX
  have g4 := pig (a0.fa6.map (·.fh3)) (s - 1).toNat (fun k hk => g2 k (by omega))
  rw [List.length_map] at g4
  have w : IntKind.i64.wrap (s + 1) = s + 1 := Vk (by omega)
  obtain ⟨v, hv, _, _, hv2⟩ := (x_ref14_index (a0 := a0) (a1 := s)).go (by omega)
  refine ⟨v, hv, fun c => ?_, fun _ => hJ _ trivial⟩
  rw [w]
  obtain ⟨q, hq, hq2⟩ := hv2 (by simpa using c)
  clear hv2 hv
  refine hX (20000 - (s + 1)).toNat _ (by omega) ⟨by omega, fun k hk => ?_, rfl⟩
  by_cases e : (k : Int) + 1 = s
  ·rw [e]; exact List.mem_map.2 ⟨q, hq, hq2⟩
  ·exact g2 k (by omega))
theorem Q1x [Cs] : DL := Zu (XL.eq_1 _ _)
theorem TI : Cu := Zu (VQ.eq_1 _ _)
theorem RZ [Cm] [Cu] : Yp := Zu (KL.eq_1 _ _)
theorem S0 [Cp] [Cv] [AD] : Yq := Zu (KM.eq_1 _ _ _)
theorem Qav [Yq] [DJ] [Cw] [FG] [EM] [Un] [I4] [DK] : LH := Zu (US.eq_1 _ _ _)
theorem Q69 : I9 := Zu (WK.eq_1 _)
theorem TJ : CB := Zu (VY.eq_1 _ _)
theorem Q1y : DN := Zu (JO.eq_1 _)
theorem Ij [Cn] : XA := Zu (Z7.eq_1 _)
theorem Hi [ZH] : ZD := Zu (QR.eq_1 _)
theorem OQ [AZ] : CC := Zu (JV.eq_1 _ _)
theorem Mp [WU] : AF := Zu (J0.eq_1 _ _)
theorem PQ [XA] [Ib] [Ia] [KG] [ZD] [ZS] [KH] [ZE] [ZM] : VD := Zu (ZJ.eq_1 _)
theorem PR [KH] [X0] [A7] [E4] : Dh := Zu (Vn.eq_1 _)
theorem PS : Ao := Zu (JJ.eq_1 _)
theorem NJ [KG] [ZT] [B0] : Bw := Zu (JB.eq_1 _ _)
theorem Qf8 [FK] : Nu := Zu (Bf.eq_1 _ _)
theorem IG [ZD] [ZT] [Gd] [Bq] : Us := Zu (Kf.eq_1 _ _)
theorem Q6a : EO := Zu (Xw.eq_1 _)
theorem PT [KH] [ZT] [WV] [YJ] [BL] [EO] : Dj := Zu (Vq.eq_1 _ _)
theorem Q6b : EQ := Zu (JX.eq_1 _ _)
theorem OR : Xe := fun {a0} => Zu (ZX.eq_1 _) (fun h => by
 obtain ⟨hl, hb⟩ := h
 refine Wk (fun _ => ⟨⟨by simp, by simp⟩, by simp, fun c => by simp at c, by simp⟩) fun c0 => ?_
 have hp : 0 < a0.length := by simp at c0; exact List.length_pos_iff.2 c0
 obtain ⟨v, hv, hvm⟩ := Cj (l := a0) (n := 0) (by omega) (by omega)
 have hv2 := hb v (List.mem_of_getElem? hvm)
 refine ⟨v, hv, Wk (fun c => ⟨v, hv, ⟨by simp, by simp; omega⟩, ?_, fun _ => .inl ⟨rfl, ?_⟩, by simp⟩) fun c => ⟨v, hv, ?_⟩⟩
 ·dsimp only; rw [Vk (by omega)]; omega
 ·dsimp only; rw [Vk (by omega)]; simpa using c
 have c2 : ¬ v < 248 := by simpa using c
 have e1 : IntKind.i64.wrap (IntKind.i64.wrap v - 247) = v - 247 := by rw [Vk (n := v) (by omega), Vk (by omega)]
 have e2 : IntKind.i64.wrap (v - 247 + 1) = v - 246 := by rw [Vk (by omega)]; omega
 rw [e1, e2]
 refine Wk (fun _ => ⟨⟨by simp, by simp⟩, by simp, fun c => by simp at c, by simp⟩) fun c3 => ?_
 have c4 : ¬ (a0.length : Int) ≤ v - 247 := by simpa using c3
 refine jmp (fun p => 0 ≤ p ∧ p < 256 ^ (v - 247).toNat) ?_ fun J hJ => lvi ⟨by decide, by omega, by decide, by simp⟩ ?_
 ·rintro p ⟨p0, p1⟩
  obtain ⟨u, hu, _⟩ := Cj (l := a0) (n := 1) (by omega) (by omega)
  refine ⟨u, hu, Wk (fun _ => ⟨⟨by simp, by simp⟩, by simp, fun c => by simp at c, by simp⟩) fun c => ?_⟩
  simp only [bfo, Bool.or_eq_false_iff, decide_eq_false_iff_not] at c
  have w : IntKind.i64.wrap p = p := Vk (by omega)
  rw [w]
  refine ⟨⟨by dsimp only; omega, by dsimp only; omega⟩, p0, fun _ => .inr ⟨(v - 247).toNat, by dsimp only; omega, p1⟩, by simp⟩
 ·rintro ⟨x, i⟩ ⟨i1, i2, x0, x1⟩ X hX
  dsimp only at *
  refine Wk (fun c => ?_) fun c => hJ _ ⟨x0, ?_⟩
  ·have ci : i ≤ v - 247 := by simpa using c
   obtain ⟨u, hu, hum⟩ := Cj (l := a0) (n := i) (by omega) (by omega)
   have hu2 := hb u (List.mem_of_getElem? hum)
   have p7 := p256 (k := (i - 1).toNat) (by omega)
   have w : IntKind.i64.wrap (i + 1) = i + 1 := Vk (by omega)
   refine ⟨u, hu, ?_⟩
   rw [Z4t x0 (by omega) hu2.1 hu2.2, w]
   refine hX _ ⟨by dsimp only; omega, by dsimp only; omega, by dsimp only; omega, ?_⟩ (by dsimp only; omega)
   dsimp only
   have e : (i + 1 - 1).toNat = (i - 1).toNat + 1 := by omega
   rw [e, Int.pow_succ]
   generalize (256 : Int) ^ (i - 1).toNat = M at *
   omega
  ·have ci : ¬ i ≤ v - 247 := by simpa using c
   have : i = v - 246 := by omega
   rw [this] at x1
   have e : (v - 246 - 1).toNat = (v - 247).toNat := by omega
   rw [e] at x1; exact x1)
theorem LQ [Xe] : K1 := Zu (Qk.eq_1 _ _)
theorem OS [Xe] : CI := Zu (V0.eq_1 _)
theorem TK [KH] [KU] [YJ] [EO] : CL := Zu (ZU.eq_1 _ _)
theorem S1 [KH] [WV] [BL] [YJ] [CL] : Eo := Zu (Xm.eq_1 _ _)
theorem Mq [ZE] [KU] [YJ] : AJ := Zu (Je.eq_1 _ _)
theorem OT [V9] : YK := Zu (Ko.eq_1 _ _ _)
theorem IH [AR] : Ux := Zu (Km.eq_1 _ _ _)
theorem TL : Ab := Zu (Zs.eq_1 _ _)
theorem PU [DN] [CB] : Dm := Zu (Vt.eq_1 _)
theorem TM [Gf] [Wh] [Cz] [YK] [I8] [V9] [Ab] [FH] [Xr] [GO] [Wj] [Gg] : FQ := Zu (Yd.eq_1 _ _)
theorem Qaw [x_ref12_New : Gf] [x_ref12_Insert : CM] : LL := fun {a0} {a1} {a2} => ⟨fun hp => ex_ (by
 obtain ⟨⟨h1, h2⟩, h3⟩ := hp
 rw [UO.eq_1]
 obtain ⟨v, hv, hz⟩ := (x_ref12_New (a0 := a0)).go trivial
 refine ⟨v, hv, jmp (fun p => zS (Q8.mk (Q6.mk p.1 p.2.1 p.2.2.1 p.2.2.2.1) (Qc.mk p.2.2.2.2.1 p.2.2.2.2.2.1 p.2.2.2.2.2.2.1) (Q3.mk p.2.2.2.2.2.2.2.1 p.2.2.2.2.2.2.2.2.1 p.2.2.2.2.2.2.2.2.2.1 p.2.2.2.2.2.2.2.2.2.2.1 p.2.2.2.2.2.2.2.2.2.2.2.1) (Q7.mk p.2.2.2.2.2.2.2.2.2.2.2.2.1 p.2.2.2.2.2.2.2.2.2.2.2.2.2.1 p.2.2.2.2.2.2.2.2.2.2.2.2.2.2.1) (Qf.mk p.2.2.2.2.2.2.2.2.2.2.2.2.2.2.2.1 p.2.2.2.2.2.2.2.2.2.2.2.2.2.2.2.2.1 p.2.2.2.2.2.2.2.2.2.2.2.2.2.2.2.2.2.1 p.2.2.2.2.2.2.2.2.2.2.2.2.2.2.2.2.2.2.1) (Q4.mk p.2.2.2.2.2.2.2.2.2.2.2.2.2.2.2.2.2.2.2.1 p.2.2.2.2.2.2.2.2.2.2.2.2.2.2.2.2.2.2.2.2.1 p.2.2.2.2.2.2.2.2.2.2.2.2.2.2.2.2.2.2.2.2.2.1 p.2.2.2.2.2.2.2.2.2.2.2.2.2.2.2.2.2.2.2.2.2.2.1 p.2.2.2.2.2.2.2.2.2.2.2.2.2.2.2.2.2.2.2.2.2.2.2.1) (Q9.mk p.2.2.2.2.2.2.2.2.2.2.2.2.2.2.2.2.2.2.2.2.2.2.2.2.1 p.2.2.2.2.2.2.2.2.2.2.2.2.2.2.2.2.2.2.2.2.2.2.2.2.2.1 p.2.2.2.2.2.2.2.2.2.2.2.2.2.2.2.2.2.2.2.2.2.2.2.2.2.2.1 p.2.2.2.2.2.2.2.2.2.2.2.2.2.2.2.2.2.2.2.2.2.2.2.2.2.2.2.1 p.2.2.2.2.2.2.2.2.2.2.2.2.2.2.2.2.2.2.2.2.2.2.2.2.2.2.2.2))) (fun p h => h) fun J hJ => ?_⟩
 refine DZ (I := fun n s => ∃ (sk : Q8) (at_ : Int) (j : Nat), zS sk ∧ j ≤ a1.length ∧ n = a1.length - j ∧ s = (at_, (j : Int), sk.fj.f7, sk.fj.fq, sk.fj.fa0, sk.fj.f8, sk.f9.fx, sk.f9.fb1, sk.f9.fc, sk.fh.fa0, sk.fh.fq, sk.fh.f8, sk.fh.fb7, sk.fh.fc, sk.f0.fa3, sk.f0.f8, sk.f0.fa1, sk.fb3.fq, sk.fb3.fx, sk.fb3.fk, sk.fb3.fc, sk.fi.fq, sk.fi.fx, sk.fi.fd4, sk.fi.fk, sk.fi.fc, sk.fw.fq, sk.fw.fx, sk.fw.fc6, sk.fw.fa7, sk.fw.fc)) ?_ (k := a1.length) ⟨v.1, 0, 0, hz, by omega, by omega, rfl⟩
 rintro n s ⟨sk, q, j, hs, hj, hn, rfl⟩ X hX
 refine ⟨fun c => ?_, fun c => hJ _ hs⟩
 have hj2 : j < a1.length := by simpa using c
 have w : IntKind.i64.wrap ((j : Int) + 1) = ((j + 1 : Nat) : Int) := by rw [Vk (by omega)]; omega
 rw [w]
 obtain ⟨u, hu, hu2⟩ := (x_ref12_Insert (a0 := sk) (a1 := a1[j]) (a2 := a2) (a3 := q)).go ⟨hs, h2 _ (List.getElem_mem hj2), h3⟩
 exact ⟨_, UC hj2, u, hu, hX (a1.length - (j + 1)) _ (by omega) ⟨u.1, u.2.1, j + 1, hu2, by omega, rfl, rfl⟩⟩)⟩
end Go.Proofs.YtikagchjeogchaaGreat
